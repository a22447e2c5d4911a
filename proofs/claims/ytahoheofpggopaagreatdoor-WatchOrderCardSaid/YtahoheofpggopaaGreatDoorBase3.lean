/-
  What this statement needs, part 3: the texts of it, one behind the other.
-/
import Derived.Test.YtahoheofpggopaaGreatDoorBase2
import Derived.ChangeKeysEq
import Derived.Laws.StructEq
set_option maxRecDepth 100000
namespace Go.Proofs.YtahoheofpggopaaGreatDoor
open Go Go.RowKit Tryz
theorem rotl_any (x:Nat) (n:Nat) (hx:x<4294967296) (hn:0<n∧n<32) (w0:World):Calls prog 203 #[vu x,vi (0-((n:Nat):Int))] w0 (jR (vu (aH x n)) w0):=by
 refine Calls.of_ok (n:=17) (F:=(fun _=>True)) func203 rfl rfl rfl (by simp) jT (jJ f203 1 [0,1,4] [.int .u32 0] (sS f203 4 [0,4,5] [] (fun _=>[vi (0-((n:Nat):Int)),vx (18446744073709551616-n),vx (32-n),vx (32-n)]) (fun _=>[]) (cR [[]]<|cA (fun _=>(vx (18446744073709551616-n))) (fun _=>congrArg (Value.int .u64) (u64_neg hn.1 hn.2))<|cA (fun _=>(vx (32-n))) (fun _=>congrArg (Value.int .u64) (and31 hn.1 hn.2))<|jE [[]]) (fun _=>sS f203 9 [4] [] (fun _=>[vu x,vx (32-n),vu (x*2^(32-n)%4294967296),vu x,vx (32-n),vx n,vu (x / 2^n),vu (aH x n),vu (aH x n)]) (fun _=>[]) (cR [[],[]]<|cB (a:=fun ρ=>(vu x)) (b:=fun ρ=>(vx (32-n))) (v:=fun ρ=>(vu (x*2^(32-n)%4294967296))) .shl 55 (fun _ w=>run_shlM om w)<|cR [[],[]]<|cA (fun _=>(vx n)) (fun _=>congrArg (Value.int .u64) (u64_32 hn.1 hn.2))<|cB (a:=fun ρ=>(vu x)) (b:=fun ρ=>(vx n)) (v:=fun ρ=>(vu (x / 2^n))) .shr 55 (fun _ w=>gG (k:=.u32) hx w)<|cA (fun _=>(vu (aH x n))) (fun _=>jN (or_rot hx))<|jE [[]]) (fun _=>aF ?_))))
 exact mR (v:=(vu (aH x n))) (fun _ hS=>⟨rfl,hS.bel⟩)
theorem lS (x:Nat) (n:Nat) (hx:x<4294967296) (hn:0<n∧n<32) (w0:World):Calls prog 210 #[vu x,vn n] w0 (jR (vu (aH x n)) w0):=by
 refine Calls.of_ok (n:=9) (F:=(fun _=>True)) func210 rfl rfl rfl (by simp) jT (jJ f210 1 [0,1,4] [.int .u32 0] (sS f210 5 [4] [] (fun _=>[vu x,vn n,vi (0-((n:Nat):Int)),vu (aH x n),vu (aH x n)]) (fun _=>[]) (cR [[],[]]<|jU (fun ρ=>(0-((n:Nat):Int))) (fun _=>(0-((n:Nat):Int))) (fun _=>(gZ om))<|cC (fun _ w=>rotl_any x n hx hn w)<|jE [[]]) (fun _=>aF ?_)))
 exact mR (v:=(vu (aH x n))) (fun _ hS=>⟨rfl,hS.bel⟩)
theorem zrow_sc (X:List UInt8):bY .u32 64 (fun _=>0)=bY .u32 64 (sc X 0 0):=fG fun m _=>(sc_zero X m).symm
theorem sched_any (X:List UInt8) (hX:X.length=64) (w0:World):Calls prog 209 #[.agg (bs X).toArray] w0 (jR (.agg (bY .u32 64 (wN X))) w0):=by
 refine Calls.of_ok (n:=85) (F:=(fun _=>True)) func209 rfl rfl rfl (by simp) jT (sS f209 2 [1,2] [] (fun ρ=>[pt (nb ρ 0),pt (nb ρ 1)]) (fun ρ=>[(0,(nw ρ 0 (cL (bs X).toArray 165))),(1,(nw ρ 1 (cL (bY .u32 64 (fun _=>0)) 174)))]) (jE [[],[]]) (fun ρ1=>sS f209 1 [1,2,3] [] (fun ρ=>[pt (nb ρ 0)]) (fun ρ=>[(0,(nw ρ 0 (cL (bY .u32 64 (fun _=>0)) 174)))]) (jE [[]]) (fun ρ2=>aB (jJ f209 1 [1,2,3,9] [vi 0] (aI ?_)))))
 refine oL (σ:=Nat × (Array Value)) (fun ⟨i,_⟩=>[(1,(pt (nb ρ1 0))),(2,(pt (nb ρ1 1))),(3,(pt (nb ρ2 0))),(9,(vn i))]) (fun ⟨_,C⟩=>[(nb ρ1 0,(cL (bs X).toArray 165)),(nb ρ1 1,(cL (bY .u32 64 (fun _=>0)) 174)),(nb ρ2 0,(cL C 174))]) (fun ⟨i,_⟩=>16-i)
  (fun ⟨i,C⟩=>(i≤16)∧(C=bY .u32 64 (sc X i 0))) (0,bY .u32 64 (fun _=>0)) (⟨by decide,zrow_sc X⟩) [] ?_
 rintro ⟨i,C⟩ ⟨hi,hC⟩
 refine jJ f209 1 [1,2,3,9,10] [.bool (decide (((i:Nat):Int)<16))] (aB (oC (decide (((i:Nat):Int)<16)) (fun hb1=>?_) (fun hb1=>?_)))
 ·rw [hb1]
  have:=yT hb1
  refine aG (aA (aB (aI (jJ f209 2 [1,2,3,4,9] [vn i,vn i] (jJ f209 1 [1,2,3,4,9,12] [vi 0] (aI ?_))))))
  refine oL (σ:=Nat × (Array Value)) (fun ⟨j,_⟩=>[(1,(pt (nb ρ1 0))),(2,(pt (nb ρ1 1))),(3,(pt (nb ρ2 0))),(4,(vn i)),(9,(vn i)),(12,(vn j))]) (fun ⟨_,C2⟩=>[(nb ρ1 0,(cL (bs X).toArray 165)),(nb ρ1 1,(cL (bY .u32 64 (fun _=>0)) 174)),(nb ρ2 0,(cL C2 174))]) (fun ⟨j,_⟩=>4-j)
   (fun ⟨j,C2⟩=>(j≤4)∧(C2=bY .u32 64 (sc X i j))) (0,C) (⟨by decide,hC⟩) [] ?_
  rintro ⟨j,C2⟩ ⟨hj,hC2⟩
  refine jJ f209 1 [1,2,3,4,9,12,13] [.bool (decide (((j:Nat):Int)<4))] (aB (oC (decide (((j:Nat):Int)<4)) (fun hb2=>?_) (fun hb2=>?_)))
  ·rw [hb2]
   have:=yT hb2
   refine aG (aA (aB (aI (jJ f209 2 [1,2,3,4,5,9,12] [vn j,vn j] (rD f209 [0,0,2,6,14,0,32,0,224,480,992,2016,4094,8191,16383] 15 [1,2,3,4,9,12] [] (fun _=>[vn i,vn i,jp (nb ρ2 0) i,vu (zJ X i j),vu (zJ X i j*256),vn i,vn (4*i),vn j,vn ((4*i)+j),jp (nb ρ1 0) ((4*i)+j),vy (gB X ((4*i)+j)),vu (gB X ((4*i)+j)),vu (zJ X i (j+1)),jp (nb ρ2 0) i,undef]) (fun _=>[(14,(bD 2 (nb ρ2 0) (cL (C2.setIfInBounds i (vu (zJ X i (j+1)))) 174)))]) (cR [[],[]]<|cX (jS (fun _=>Instr.indexAt 174 (pt (nb ρ2 0)) (vn i)) (fun _=>(jp (nb ρ2 0) i)) (fun _ w=>aX (n:=((i:Nat):Int)) (i:=i) underlying174 sizeOf55 om w))<|cX (kG _ 2 55 (fun _=>nb ρ2 0) (fun _=>i) (fun _=>C2) 174 (0,0) (fun _=>(vu (zJ X i j))) (fun _=>by kernel_rfl) isAgg55 (fun _=>(by rw [hC2,nG om,sc_at])))<|cB (a:=fun ρ=>(vu (zJ X i j))) (b:=fun ρ=>(.int .u64 8)) (v:=fun ρ=>(vu (zJ X i j*256))) .shl 55 (fun _ w=>run_pw8 om w)<|cR [[]]<|jW (fun ρ=>(4*((i:Nat):Int))) (fun _=>(4*i)) (fun _=>(fQ 4 i om))<|cR [[]]<|jW (fun ρ=>(((4*i:Nat):Int)+((j:Nat):Int))) (fun _=>((4*i)+j)) (fun _=>(aW (4*i) j om))<|cX (jS (fun _=>Instr.indexAt 165 (pt (nb ρ1 0)) (vn ((4*i)+j))) (fun _=>(jp (nb ρ1 0) ((4*i)+j))) (fun _ w=>aX (n:=(((4*i)+j:Nat):Int)) (i:=(4*i)+j) underlying165 sizeOf5 om w))<|cX (kG _ 0 5 (fun _=>nb ρ1 0) (fun _=>(4*i)+j) (fun _=>(bs X).toArray) 165 (0,0) (fun _=>(vy (gB X ((4*i)+j)))) (fun _=>by kernel_rfl) isAgg5 (fun _=>(zG (by rw [hX];omega))))<|cA (v:=fun ρ=>(.int .u32 (IntKind.u32.wrap ((gB X ((4*i)+j):Nat):Int)))) (fun _=>(vu (gB X ((4*i)+j)))) (fun _=>jN (u32N (Nat.lt_of_lt_of_le (iD _ _) (by decide))))<|cA (v:=fun ρ=>(.int .u32 (bits .or .u32 ((zJ X i j*256:Nat):Int) ((gB X ((4*i)+j):Nat):Int)))) (fun _=>(vu (zJ X i (j+1)))) (fun _=>jN (or_pw om))<|cX (jS (fun _=>Instr.indexAt 174 (pt (nb ρ2 0)) (vn i)) (fun _=>(jp (nb ρ2 0) i)) (fun _ w=>aX (n:=((i:Nat):Int)) (i:=i) underlying174 sizeOf55 om w))<|cX (qG _ 2 55 (fun _=>nb ρ2 0) (fun _=>i) (fun _=>C2) (fun _=>(C2.setIfInBounds i (vu (zJ X i (j+1))))) 174 (fun _=>(vu (zJ X i (j+1)))) (fun _=>by kernel_rfl) sizeOf55 (fun _=>rfl) (fun _=>(by rw [hC2,eH];omega)) (fun _=>rfl))<|cN) (fun _=>aJ (aA (rS f209 2 [1,2,3,4,9,12] [] (fun _=>[vn (j+1),vn (j+1)]) (fun _=>[]) (jW (fun ρ=>(((j:Nat):Int)+1)) (fun _=>(j+1)) (fun _=>(aW j 1 om))<|jE [[]]) (fun _=>?_)))))))))
   exact mN (j+1,C2.setIfInBounds i (vu (zJ X i (j+1)))) (by show 4-(j+1)<4-j;omega) (⟨om,by rw [hC2];exact sc_set⟩) []
  rw [hb2]
  have:=yF hb2
  refine bF (aN (aN (aT (aJ (aA (rS f209 2 [1,2,3,9] [] (fun _=>[vn (i+1),vn (i+1)]) (fun _=>[]) (jW (fun ρ=>(((i:Nat):Int)+1)) (fun _=>(i+1)) (fun _=>(aW i 1 om))<|jE [[]]) (fun _=>?_)))))))
  exact mN (i+1,C2) (by show 16-(i+1)<16-i;omega) (⟨om,hC2.trans (by rw [show j=4 by omega];exact sc_next X i)⟩) []
 rw [hb1]
 have:=yF hb1
 refine bF (aN (aN (aT (aA (aB (jM f209 1 [2,3,6] [0,1,1] [vi 16] [[]] (aI ?_)))))))
 refine oL (σ:=Nat × (Array Value)) (fun ⟨k,_⟩=>[(2,(pt (nb ρ1 1))),(3,(pt (nb ρ2 0))),(6,(vn k))]) (fun ⟨_,C3⟩=>[(nb ρ1 1,(cL (bY .u32 64 (fun _=>0)) 174)),(nb ρ2 0,(cL C3 174))]) (fun ⟨k,_⟩=>64-k)
  (fun ⟨k,C3⟩=>(16≤k∧k≤64)∧(C3=bY .u32 64 (tc X k))) (16,C) (⟨by decide,hC.trans (by rw [show i=16 by omega];exact sc_tc X)⟩) [] ?_
 rintro ⟨k,C3⟩ ⟨hk,hC3⟩
 refine aB (jJ f209 2 [2,3,6,32] [vn k,.bool (decide (((k:Nat):Int)<64))] (oC (decide (((k:Nat):Int)<64)) (fun hb3=>?_) (fun hb3=>?_)))
 ·rw [hb3]
  have:=yT hb3
  refine aG (aA (aB (aI (sD f209 [0,1,3,7,15,0,32,96,224,511,1023,0,2048,6144,14336,30720,65535,131071] 18 [2,3,6,7] [] (fun _=>let qa:=vu (((aH (wN X (k-15)) 7)^^^(aH (wN X (k-15)) 18))^^^((wN X (k-15)) / 2^3));let qb:=vi (((k:Nat):Int)-15);[vn k,qb,jp (nb ρ2 0) (k-15),vu (wN X (k-15)),vu (aH (wN X (k-15)) 7),vn k,qb,jp (nb ρ2 0) (k-15),vu (wN X (k-15)),vu (aH (wN X (k-15)) 18),vu ((aH (wN X (k-15)) 7)^^^(aH (wN X (k-15)) 18)),vn k,qb,jp (nb ρ2 0) (k-15),vu (wN X (k-15)),vu ((wN X (k-15)) / 2^3),qa,qa]) (fun _=>[]) (cR [[]]<|jU (fun ρ=>(((k:Nat):Int)-15)) (fun _=>(((k:Nat):Int)-15)) (fun _=>(gZ om))<|cX (jS (fun _=>Instr.indexAt 174 (pt (nb ρ2 0)) (vi (((k:Nat):Int)-15))) (fun _=>(jp (nb ρ2 0) (k-15))) (fun _ w=>aX (n:=((k:Nat):Int)-15) (i:=k-15) underlying174 sizeOf55 om w))<|cX (kG _ 1 55 (fun _=>nb ρ2 0) (fun _=>k-15) (fun _=>C3) 174 (0,0) (fun _=>(vu (wN X (k-15)))) (fun _=>by kernel_rfl) isAgg55 (fun _=>(by rw [hC3];exact lM om om)))<|cC (f:=210) (args:=fun ρ=> #[vu (wN X (k-15)),vi 7]) (v:=fun ρ=>(vu (aH (wN X (k-15)) 7))) (fun _ w=>(fun w=>lS (wN X (k-15)) 7 (iF _ _) (by decide) w) w)<|cR [[]]<|jU (fun ρ=>(((k:Nat):Int)-15)) (fun _=>(((k:Nat):Int)-15)) (fun _=>(gZ om))<|cX (jS (fun _=>Instr.indexAt 174 (pt (nb ρ2 0)) (vi (((k:Nat):Int)-15))) (fun _=>(jp (nb ρ2 0) (k-15))) (fun _ w=>aX (n:=((k:Nat):Int)-15) (i:=k-15) underlying174 sizeOf55 om w))<|cX (kG _ 1 55 (fun _=>nb ρ2 0) (fun _=>k-15) (fun _=>C3) 174 (0,0) (fun _=>(vu (wN X (k-15)))) (fun _=>by kernel_rfl) isAgg55 (fun _=>(by rw [hC3];exact lM om om)))<|cC (f:=210) (args:=fun ρ=> #[vu (wN X (k-15)),vi 18]) (v:=fun ρ=>(vu (aH (wN X (k-15)) 18))) (fun _ w=>(fun w=>lS (wN X (k-15)) 18 (iF _ _) (by decide) w) w)<|cA (v:=fun ρ=>(.int .u32 (bits .xor .u32 ((aH (wN X (k-15)) 7:Nat):Int) ((aH (wN X (k-15)) 18:Nat):Int)))) (fun _=>(vu ((aH (wN X (k-15)) 7)^^^(aH (wN X (k-15)) 18)))) (fun _=>jN (lH (dE _ (iF _ _)) (dE _ (iF _ _))))<|cR [[]]<|jU (fun ρ=>(((k:Nat):Int)-15)) (fun _=>(((k:Nat):Int)-15)) (fun _=>(gZ om))<|cX (jS (fun _=>Instr.indexAt 174 (pt (nb ρ2 0)) (vi (((k:Nat):Int)-15))) (fun _=>(jp (nb ρ2 0) (k-15))) (fun _ w=>aX (n:=((k:Nat):Int)-15) (i:=k-15) underlying174 sizeOf55 om w))<|cX (kG _ 1 55 (fun _=>nb ρ2 0) (fun _=>k-15) (fun _=>C3) 174 (0,0) (fun _=>(vu (wN X (k-15)))) (fun _=>by kernel_rfl) isAgg55 (fun _=>(by rw [hC3];exact lM om om)))<|cB (a:=fun ρ=>(vu (wN X (k-15)))) (b:=fun ρ=>(.int .u64 3)) (v:=fun ρ=>(vu ((wN X (k-15)) / 2^3))) .shr 55 (fun _ w=>gG (k:=.u32) (x:=(wN X (k-15))) (c:=3) (iF _ _) w)<|cA (v:=fun ρ=>(.int .u32 (bits .xor .u32 (((aH (wN X (k-15)) 7)^^^(aH (wN X (k-15)) 18):Nat):Int) (((wN X (k-15)) / 2^3:Nat):Int)))) (fun _=>(vu (((aH (wN X (k-15)) 7)^^^(aH (wN X (k-15)) 18))^^^((wN X (k-15)) / 2^3)))) (fun _=>jN (lH (lU (dE _ (iF _ _)) (dE _ (iF _ _))) (rV _ (iF _ _))))<|jE [[]]) (fun _=>sD f209 [0,1,3,7,15,0,32,96,224,511,1023,0,2048,6144,14336,30720,65535,131071] 18 [2,3,6,7,8] [] (fun _=>let qa:=vu (((aH (wN X (k-2)) 17)^^^(aH (wN X (k-2)) 19))^^^((wN X (k-2)) / 2^10));let qb:=vi (((k:Nat):Int)-2);[vn k,qb,jp (nb ρ2 0) (k-2),vu (wN X (k-2)),vu (aH (wN X (k-2)) 17),vn k,qb,jp (nb ρ2 0) (k-2),vu (wN X (k-2)),vu (aH (wN X (k-2)) 19),vu ((aH (wN X (k-2)) 17)^^^(aH (wN X (k-2)) 19)),vn k,qb,jp (nb ρ2 0) (k-2),vu (wN X (k-2)),vu ((wN X (k-2)) / 2^10),qa,qa]) (fun _=>[]) (cR [[]]<|jU (fun ρ=>(((k:Nat):Int)-2)) (fun _=>(((k:Nat):Int)-2)) (fun _=>(gZ om))<|cX (jS (fun _=>Instr.indexAt 174 (pt (nb ρ2 0)) (vi (((k:Nat):Int)-2))) (fun _=>(jp (nb ρ2 0) (k-2))) (fun _ w=>aX (n:=((k:Nat):Int)-2) (i:=k-2) underlying174 sizeOf55 om w))<|cX (kG _ 1 55 (fun _=>nb ρ2 0) (fun _=>k-2) (fun _=>C3) 174 (0,0) (fun _=>(vu (wN X (k-2)))) (fun _=>by kernel_rfl) isAgg55 (fun _=>(by rw [hC3];exact lM om om)))<|cC (f:=210) (args:=fun ρ=> #[vu (wN X (k-2)),vi 17]) (v:=fun ρ=>(vu (aH (wN X (k-2)) 17))) (fun _ w=>(fun w=>lS (wN X (k-2)) 17 (iF _ _) (by decide) w) w)<|cR [[]]<|jU (fun ρ=>(((k:Nat):Int)-2)) (fun _=>(((k:Nat):Int)-2)) (fun _=>(gZ om))<|cX (jS (fun _=>Instr.indexAt 174 (pt (nb ρ2 0)) (vi (((k:Nat):Int)-2))) (fun _=>(jp (nb ρ2 0) (k-2))) (fun _ w=>aX (n:=((k:Nat):Int)-2) (i:=k-2) underlying174 sizeOf55 om w))<|cX (kG _ 1 55 (fun _=>nb ρ2 0) (fun _=>k-2) (fun _=>C3) 174 (0,0) (fun _=>(vu (wN X (k-2)))) (fun _=>by kernel_rfl) isAgg55 (fun _=>(by rw [hC3];exact lM om om)))<|cC (f:=210) (args:=fun ρ=> #[vu (wN X (k-2)),vi 19]) (v:=fun ρ=>(vu (aH (wN X (k-2)) 19))) (fun _ w=>(fun w=>lS (wN X (k-2)) 19 (iF _ _) (by decide) w) w)<|cA (v:=fun ρ=>(.int .u32 (bits .xor .u32 ((aH (wN X (k-2)) 17:Nat):Int) ((aH (wN X (k-2)) 19:Nat):Int)))) (fun _=>(vu ((aH (wN X (k-2)) 17)^^^(aH (wN X (k-2)) 19)))) (fun _=>jN (lH (dE _ (iF _ _)) (dE _ (iF _ _))))<|cR [[]]<|jU (fun ρ=>(((k:Nat):Int)-2)) (fun _=>(((k:Nat):Int)-2)) (fun _=>(gZ om))<|cX (jS (fun _=>Instr.indexAt 174 (pt (nb ρ2 0)) (vi (((k:Nat):Int)-2))) (fun _=>(jp (nb ρ2 0) (k-2))) (fun _ w=>aX (n:=((k:Nat):Int)-2) (i:=k-2) underlying174 sizeOf55 om w))<|cX (kG _ 1 55 (fun _=>nb ρ2 0) (fun _=>k-2) (fun _=>C3) 174 (0,0) (fun _=>(vu (wN X (k-2)))) (fun _=>by kernel_rfl) isAgg55 (fun _=>(by rw [hC3];exact lM om om)))<|cB (a:=fun ρ=>(vu (wN X (k-2)))) (b:=fun ρ=>(.int .u64 10)) (v:=fun ρ=>(vu ((wN X (k-2)) / 2^10))) .shr 55 (fun _ w=>gG (k:=.u32) (x:=(wN X (k-2))) (c:=10) (iF _ _) w)<|cA (v:=fun ρ=>(.int .u32 (bits .xor .u32 (((aH (wN X (k-2)) 17)^^^(aH (wN X (k-2)) 19):Nat):Int) (((wN X (k-2)) / 2^10:Nat):Int)))) (fun _=>(vu (((aH (wN X (k-2)) 17)^^^(aH (wN X (k-2)) 19))^^^((wN X (k-2)) / 2^10)))) (fun _=>jN (lH (lU (dE _ (iF _ _)) (dE _ (iF _ _))) (rV _ (iF _ _))))<|jE [[]]) (fun _=>rD f209 [0,0,2,6,14,0,62,0,128,384,896,2046,0,8190,16383,32767] 16 [2,3,6] [] (fun _=>[vn k,vn k,vi (((k:Nat):Int)-16),jp (nb ρ2 0) (k-16),vu (wN X (k-16)),vu (((aH (wN X (k-15)) 7)^^^(aH (wN X (k-15)) 18))^^^((wN X (k-15)) / 2^3)),vu (add32 (wN X (k-16)) (((aH (wN X (k-15)) 7)^^^(aH (wN X (k-15)) 18))^^^((wN X (k-15)) / 2^3))),vn k,vi (((k:Nat):Int)-7),jp (nb ρ2 0) (k-7),vu (wN X (k-7)),vu (add32 (add32 (wN X (k-16)) (((aH (wN X (k-15)) 7)^^^(aH (wN X (k-15)) 18))^^^((wN X (k-15)) / 2^3))) (wN X (k-7))),vu (((aH (wN X (k-2)) 17)^^^(aH (wN X (k-2)) 19))^^^((wN X (k-2)) / 2^10)),vu (add32 (add32 (add32 (wN X (k-16)) (((aH (wN X (k-15)) 7)^^^(aH (wN X (k-15)) 18))^^^((wN X (k-15)) / 2^3))) (wN X (k-7))) (((aH (wN X (k-2)) 17)^^^(aH (wN X (k-2)) 19))^^^((wN X (k-2)) / 2^10))),jp (nb ρ2 0) k,undef]) (fun _=>[(15,(bD 1 (nb ρ2 0) (cL (C3.setIfInBounds k (vu (add32 (add32 (add32 (wN X (k-16)) (((aH (wN X (k-15)) 7)^^^(aH (wN X (k-15)) 18))^^^((wN X (k-15)) / 2^3))) (wN X (k-7))) (((aH (wN X (k-2)) 17)^^^(aH (wN X (k-2)) 19))^^^((wN X (k-2)) / 2^10))))) 174)))]) (cR [[],[]]<|jU (fun ρ=>(((k:Nat):Int)-16)) (fun _=>(((k:Nat):Int)-16)) (fun _=>(gZ om))<|cX (jS (fun _=>Instr.indexAt 174 (pt (nb ρ2 0)) (vi (((k:Nat):Int)-16))) (fun _=>(jp (nb ρ2 0) (k-16))) (fun _ w=>aX (n:=((k:Nat):Int)-16) (i:=k-16) underlying174 sizeOf55 om w))<|cX (kG _ 1 55 (fun _=>nb ρ2 0) (fun _=>k-16) (fun _=>C3) 174 (0,0) (fun _=>(vu (wN X (k-16)))) (fun _=>by kernel_rfl) isAgg55 (fun _=>(by rw [hC3];exact lM om om)))<|cR [[]]<|cA (fun _=>(vu (add32 (wN X (k-16)) (((aH (wN X (k-15)) 7)^^^(aH (wN X (k-15)) 18))^^^((wN X (k-15)) / 2^3))))) (fun _=>jN (bP (wN X (k-16)) (((aH (wN X (k-15)) 7)^^^(aH (wN X (k-15)) 18))^^^((wN X (k-15)) / 2^3))))<|cR [[]]<|jU (fun ρ=>(((k:Nat):Int)-7)) (fun _=>(((k:Nat):Int)-7)) (fun _=>(gZ om))<|cX (jS (fun _=>Instr.indexAt 174 (pt (nb ρ2 0)) (vi (((k:Nat):Int)-7))) (fun _=>(jp (nb ρ2 0) (k-7))) (fun _ w=>aX (n:=((k:Nat):Int)-7) (i:=k-7) underlying174 sizeOf55 om w))<|cX (kG _ 1 55 (fun _=>nb ρ2 0) (fun _=>k-7) (fun _=>C3) 174 (0,0) (fun _=>(vu (wN X (k-7)))) (fun _=>by kernel_rfl) isAgg55 (fun _=>(by rw [hC3];exact lM om om)))<|cA (fun _=>(vu (add32 (add32 (wN X (k-16)) (((aH (wN X (k-15)) 7)^^^(aH (wN X (k-15)) 18))^^^((wN X (k-15)) / 2^3))) (wN X (k-7))))) (fun _=>jN (bP (add32 (wN X (k-16)) (((aH (wN X (k-15)) 7)^^^(aH (wN X (k-15)) 18))^^^((wN X (k-15)) / 2^3))) (wN X (k-7))))<|cR [[]]<|cA (fun _=>(vu (add32 (add32 (add32 (wN X (k-16)) (((aH (wN X (k-15)) 7)^^^(aH (wN X (k-15)) 18))^^^((wN X (k-15)) / 2^3))) (wN X (k-7))) (((aH (wN X (k-2)) 17)^^^(aH (wN X (k-2)) 19))^^^((wN X (k-2)) / 2^10))))) (fun _=>jN (bP (add32 (add32 (wN X (k-16)) (((aH (wN X (k-15)) 7)^^^(aH (wN X (k-15)) 18))^^^((wN X (k-15)) / 2^3))) (wN X (k-7))) (((aH (wN X (k-2)) 17)^^^(aH (wN X (k-2)) 19))^^^((wN X (k-2)) / 2^10))))<|cX (jS (fun _=>Instr.indexAt 174 (pt (nb ρ2 0)) (vn k)) (fun _=>(jp (nb ρ2 0) k)) (fun _ w=>aX (n:=((k:Nat):Int)) (i:=k) underlying174 sizeOf55 om w))<|cX (qG _ 1 55 (fun _=>nb ρ2 0) (fun _=>k) (fun _=>C3) (fun _=>(C3.setIfInBounds k (vu (add32 (add32 (add32 (wN X (k-16)) (((aH (wN X (k-15)) 7)^^^(aH (wN X (k-15)) 18))^^^((wN X (k-15)) / 2^3))) (wN X (k-7))) (((aH (wN X (k-2)) 17)^^^(aH (wN X (k-2)) 19))^^^((wN X (k-2)) / 2^10)))))) 174 (fun _=>(vu (add32 (add32 (add32 (wN X (k-16)) (((aH (wN X (k-15)) 7)^^^(aH (wN X (k-15)) 18))^^^((wN X (k-15)) / 2^3))) (wN X (k-7))) (((aH (wN X (k-2)) 17)^^^(aH (wN X (k-2)) 19))^^^((wN X (k-2)) / 2^10))))) (fun _=>by kernel_rfl) sizeOf55 (fun _=>rfl) (fun _=>(by rw [hC3,eH];omega)) (fun _=>rfl))<|cN) (fun _=>aJ (aA (rS f209 3 [2,3,6] [] (fun _=>[vn k,vn (k+1),vn (k+1)]) (fun _=>[]) (cR [[]]<|jW (fun ρ=>(((k:Nat):Int)+1)) (fun _=>(k+1)) (fun _=>(aW k 1 om))<|jE [[]]) (fun _=>?_))))))))))
  exact mN (k+1,C3.setIfInBounds k (vu (add32 (add32 (add32 (wN X (k-16)) (((aH (wN X (k-15)) 7)^^^(aH (wN X (k-15)) 18))^^^((wN X (k-15)) / 2^3))) (wN X (k-7))) (((aH (wN X (k-2)) 17)^^^(aH (wN X (k-2)) 19))^^^((wN X (k-2)) / 2^10))))) (by show 64-(k+1)<64-k;omega) (⟨om,by rw [hC3];exact tc_set (wN_more hk.1).symm⟩) []
 rw [hb3]
 refine bF (aN (aN (aT ?_)))
 rw [hC3]
 refine aA (sS f209 2 [2] [1,0] (fun _=>[.agg (bY .u32 64 (tc X k)),undef]) (fun _=>[(1,(bD 0 (nb ρ1 1) (cL (bY .u32 64 (tc X k)) 174)))]) (jE [[1],[0]]) (fun _=>aF ?_))
 exact mR (v:=(.agg (bY .u32 64 (tc X k)))) (fun _ hS=>⟨congrArg Ending.returned (congrArg Value.agg (tc_end (oA (yF hb3)))),hS.bel⟩)
theorem compress_any (s0:Nat) (s1:Nat) (s2:Nat) (s3:Nat) (s4:Nat) (s5:Nat) (s6:Nat) (s7:Nat) (X:List UInt8) (hs:ok8 (s0,s1,s2,s3,s4,s5,s6,s7)) (hX:X.length=64) (w0:World) (hf0:kJ w0):Calls prog 199 #[.agg #[vu s0,vu s1,vu s2,vu s3,vu s4,vu s5,vu s6,vu s7],.agg (bs X).toArray] w0 (jR (.agg #[vu ((eF (s0,s1,s2,s3,s4,s5,s6,s7) X).1),vu ((eF (s0,s1,s2,s3,s4,s5,s6,s7) X).2.1),vu ((eF (s0,s1,s2,s3,s4,s5,s6,s7) X).2.2.1),vu ((eF (s0,s1,s2,s3,s4,s5,s6,s7) X).2.2.2.1),vu ((eF (s0,s1,s2,s3,s4,s5,s6,s7) X).2.2.2.2.1),vu ((eF (s0,s1,s2,s3,s4,s5,s6,s7) X).2.2.2.2.2.1),vu ((eF (s0,s1,s2,s3,s4,s5,s6,s7) X).2.2.2.2.2.2.1),vu ((eF (s0,s1,s2,s3,s4,s5,s6,s7) X).2.2.2.2.2.2.2)]) w0):=by
 refine Calls.of_ok (n:=131) (F:=(fun w=>kJ w∧True)) func199 rfl rfl rfl (by simp) (hf0.pers0.and cO) (sS f199 3 [2,3,4] [] (fun ρ=>[pt (nb ρ 0),pt (nb ρ 1),pt (nb ρ 2)]) (fun ρ=>[(0,(nw ρ 0 (cL #[vu s0,vu s1,vu s2,vu s3,vu s4,vu s5,vu s6,vu s7] 163))),(1,(nw ρ 1 (cL (bs X).toArray 165))),(2,(nw ρ 2 (cL #[.int .u32 0,.int .u32 0,.int .u32 0,.int .u32 0,.int .u32 0,.int .u32 0,.int .u32 0,.int .u32 0] 163)))]) (jE [[],[],[]]) (fun ρ1=>sS f199 4 [2,4,5] [1,0,1,1] (fun ρ=>[.agg (bs X).toArray,.agg (bY .u32 64 (wN X)),pt (nb ρ 2),undef]) (fun ρ=>[(2,(nw ρ 2 (cL (bY .u32 64 (fun _=>0)) 174))),(3,(bD 19 (nb ρ 2) (cL (bY .u32 64 (wN X)) 174)))]) (cX (qF (fun _ _ _ hG=>vS isAgg165 sizeOf165 (hG.kn (g:=nb ρ1 1) (o:=(cL (bs X).toArray 165)) 1) (by simp [bs,hX])))<|cC (fun _ w=>sched_any X hX w)<|jE [[],[19]]) (fun ρ2=>sD f199 [0,1,0,4,0,16,0,64,3,271,831,2047] 12 [2,4,5,6,7,8,9] [] (fun _=>[pt (nb ρ1 0),vu s0,jp (nb ρ1 0) 1,vu s1,jp (nb ρ1 0) 2,vu s2,jp (nb ρ1 0) 3,vu s3,vu s0,vu s1,vu s2,vu s3]) (fun _=>[]) (jE [[],[0],[],[0],[],[0],[],[0],[],[],[],[]]) (fun _=>sD f199 [0,1,0,4,0,16,0,64,3,271,831,2047] 12 [2,4,5,6,7,8,9,10,11,12,13] [] (fun _=>[jp (nb ρ1 0) 4,vu s4,jp (nb ρ1 0) 5,vu s5,jp (nb ρ1 0) 6,vu s6,jp (nb ρ1 0) 7,vu s7,vu s4,vu s5,vu s6,vu s7]) (fun _=>[]) (jE [[],[0],[],[0],[],[0],[],[0],[],[],[],[]]) (fun _=>aB (jJ f199 1 [2,4,5,6,7,8,9,10,11,12,13,35] [vi 0] (aI ?_)))))))
 refine oL (σ:=Nat × Nat × Nat × Nat × Nat × Nat × Nat × Nat × Nat) (fun ⟨i,ra,rb,rc,rd,re,rf,rg,rh⟩=>[(2,(pt (nb ρ1 0))),(4,(pt (nb ρ1 2))),(5,(pt (nb ρ2 2))),(6,(vu ra)),(7,(vu rb)),(8,(vu rc)),(9,(vu rd)),(10,(vu re)),(11,(vu rf)),(12,(vu rg)),(13,(vu rh)),(35,(vn i))]) (fun ⟨_,_,_,_,_,_,_,_,_⟩=>[(nb ρ1 0,(cL #[vu s0,vu s1,vu s2,vu s3,vu s4,vu s5,vu s6,vu s7] 163)),(nb ρ1 2,(cL #[.int .u32 0,.int .u32 0,.int .u32 0,.int .u32 0,.int .u32 0,.int .u32 0,.int .u32 0,.int .u32 0] 163)),(nb ρ2 2,(cL (bY .u32 64 (wN X)) 174))]) (fun ⟨i,_,_,_,_,_,_,_,_⟩=>64-i)
  (fun ⟨i,ra,rb,rc,rd,re,rf,rg,rh⟩=>(i≤64)∧(rnds X (s0,s1,s2,s3,s4,s5,s6,s7) i=(ra,rb,rc,rd,re,rf,rg,rh))) (0,s0,s1,s2,s3,s4,s5,s6,s7) (⟨by decide,rfl⟩) [] ?_
 rintro ⟨i,ra,rb,rc,rd,re,rf,rg,rh⟩ ⟨hi,hr⟩
 have ho:ok8 (ra,rb,rc,rd,re,rf,rg,rh):=hr ▸ rnds_ok hs i
 refine jJ f199 1 [2,4,5,6,7,8,9,10,11,12,13,35,36] [.bool (decide (((i:Nat):Int)<64))] (aB (oC (decide (((i:Nat):Int)<64)) (fun hb1=>?_) (fun hb1=>?_)))
 ·rw [hb1]
  have:=yT hb1
  refine aG (aA (aB (aI (jJ f199 2 [2,4,5,6,7,8,9,10,11,12,13,14,35] [vn i,vn i] (sD f199 [0,0,2,0,14,30,0,94,254,511,0,0,3072,0,8192,0,57344,130048,262143,0,524288,1572864,4194303,0,8388608,25165824,67108863,134217727] 28 [2,4,5,6,7,8,9,10,11,12,13,15,35] [] (fun _=>let qa:=vu (add32 (add32 (add32 (add32 rh (((aH re 6)^^^(aH re 11))^^^(aH re 25))) ((re&&&rf)^^^((dW re)&&&rg))) (kN i)) (wN X i));[vu rh,vu re,vu (aH re 6),vu re,vu (aH re 11),vu ((aH re 6)^^^(aH re 11)),vu re,vu (aH re 25),vu (((aH re 6)^^^(aH re 11))^^^(aH re 25)),vu (add32 rh (((aH re 6)^^^(aH re 11))^^^(aH re 25))),vu re,vu rf,vu (re&&&rf),vu re,vu (dW re),vu rg,vu ((dW re)&&&rg),vu ((re&&&rf)^^^((dW re)&&&rg)),vu (add32 (add32 rh (((aH re 6)^^^(aH re 11))^^^(aH re 25))) ((re&&&rf)^^^((dW re)&&&rg))),vn i,jp 2 i,vu (kN i),vu (add32 (add32 (add32 rh (((aH re 6)^^^(aH re 11))^^^(aH re 25))) ((re&&&rf)^^^((dW re)&&&rg))) (kN i)),vn i,jp (nb ρ2 2) i,vu (wN X i),qa,qa]) (fun _=>[]) (cR [[],[]]<|cC (fun _ w=>lS re 6 ho.2.2.2.2.1 (by decide) w)<|cR [[]]<|cC (fun _ w=>lS re 11 ho.2.2.2.2.1 (by decide) w)<|cA (v:=fun ρ=>(.int .u32 (bits .xor .u32 ((aH re 6:Nat):Int) ((aH re 11:Nat):Int)))) (fun _=>(vu ((aH re 6)^^^(aH re 11)))) (fun _=>jN (lH (dE _ ho.2.2.2.2.1) (dE _ ho.2.2.2.2.1)))<|cR [[]]<|cC (fun _ w=>lS re 25 ho.2.2.2.2.1 (by decide) w)<|cA (v:=fun ρ=>(.int .u32 (bits .xor .u32 (((aH re 6)^^^(aH re 11):Nat):Int) ((aH re 25:Nat):Int)))) (fun _=>(vu (((aH re 6)^^^(aH re 11))^^^(aH re 25)))) (fun _=>jN (lH (lU (dE _ ho.2.2.2.2.1) (dE _ ho.2.2.2.2.1)) (dE _ ho.2.2.2.2.1)))<|cA (fun _=>(vu (add32 rh (((aH re 6)^^^(aH re 11))^^^(aH re 25))))) (fun _=>jN (bP rh (((aH re 6)^^^(aH re 11))^^^(aH re 25))))<|cR [[],[]]<|cA (fun _=>(vu (re&&&rf))) (fun _=>jN (xR ho.2.2.2.2.1 ho.2.2.2.2.2.1))<|cR [[]]<|cA (fun _=>(vu (dW re))) (fun _=>jN (not_xor32 ho.2.2.2.2.1))<|cR [[]]<|cA (v:=fun ρ=>(.int .u32 (bits .and .u32 ((dW re:Nat):Int) ((rg:Nat):Int)))) (fun _=>(vu ((dW re)&&&rg))) (fun _=>jN (xR (y9 _) ho.2.2.2.2.2.2.1))<|cA (v:=fun ρ=>(.int .u32 (bits .xor .u32 ((re&&&rf:Nat):Int) (((dW re)&&&rg:Nat):Int)))) (fun _=>(vu ((re&&&rf)^^^((dW re)&&&rg)))) (fun _=>jN (lH (iR _ ho.2.2.2.2.1) (iR _ (y9 _))))<|cA (fun _=>(vu (add32 (add32 rh (((aH re 6)^^^(aH re 11))^^^(aH re 25))) ((re&&&rf)^^^((dW re)&&&rg))))) (fun _=>jN (bP (add32 rh (((aH re 6)^^^(aH re 11))^^^(aH re 25))) ((re&&&rf)^^^((dW re)&&&rg))))<|cR [[]]<|cX (jS (fun _=>Instr.indexAt 174 (pt 2) (vn i)) (fun _=>(jp 2 i)) (fun _ w=>aX (n:=((i:Nat):Int)) (i:=i) underlying174 sizeOf55 om w))<|cX (qF (v:=fun ρ=>(vu (kN i))) (fun _ _ _ hG=>mY (off:=i) isAgg55 hG.fn.1 (kC_get om)))<|cA (fun _=>(vu (add32 (add32 (add32 rh (((aH re 6)^^^(aH re 11))^^^(aH re 25))) ((re&&&rf)^^^((dW re)&&&rg))) (kN i)))) (fun _=>jN (bP (add32 (add32 rh (((aH re 6)^^^(aH re 11))^^^(aH re 25))) ((re&&&rf)^^^((dW re)&&&rg))) (kN i)))<|cR [[]]<|cX (jS (fun _=>Instr.indexAt 174 (pt (nb ρ2 2)) (vn i)) (fun _=>(jp (nb ρ2 2) i)) (fun _ w=>aX (n:=((i:Nat):Int)) (i:=i) underlying174 sizeOf55 om w))<|cX (kG _ 2 55 (fun _=>nb ρ2 2) (fun _=>i) (fun _=>(bY .u32 64 (wN X))) 174 (0,0) (fun _=>(vu (wN X i))) (fun _=>by kernel_rfl) isAgg55 (fun _=>(nG om)))<|cA (fun _=>(vu (add32 (add32 (add32 (add32 rh (((aH re 6)^^^(aH re 11))^^^(aH re 25))) ((re&&&rf)^^^((dW re)&&&rg))) (kN i)) (wN X i)))) (fun _=>jN (bP (add32 (add32 (add32 rh (((aH re 6)^^^(aH re 11))^^^(aH re 25))) ((re&&&rf)^^^((dW re)&&&rg))) (kN i)) (wN X i)))<|jE [[]]) (fun _=>sS f199 21 [2,4,5,6,7,8,9,10,11,12,13,15,16,35] [] (fun _=>let qa:=vu (add32 (((aH ra 2)^^^(aH ra 13))^^^(aH ra 22)) (((ra&&&rb)^^^(ra&&&rc))^^^(rb&&&rc)));[vu ra,vu (aH ra 2),vu ra,vu (aH ra 13),vu ((aH ra 2)^^^(aH ra 13)),vu ra,vu (aH ra 22),vu (((aH ra 2)^^^(aH ra 13))^^^(aH ra 22)),vu ra,vu rb,vu (ra&&&rb),vu ra,vu rc,vu (ra&&&rc),vu ((ra&&&rb)^^^(ra&&&rc)),vu rb,vu rc,vu (rb&&&rc),vu (((ra&&&rb)^^^(ra&&&rc))^^^(rb&&&rc)),qa,qa]) (fun _=>[]) (cR [[]]<|cC (fun _ w=>lS ra 2 ho.1 (by decide) w)<|cR [[]]<|cC (fun _ w=>lS ra 13 ho.1 (by decide) w)<|cA (v:=fun ρ=>(.int .u32 (bits .xor .u32 ((aH ra 2:Nat):Int) ((aH ra 13:Nat):Int)))) (fun _=>(vu ((aH ra 2)^^^(aH ra 13)))) (fun _=>jN (lH (dE _ ho.1) (dE _ ho.1)))<|cR [[]]<|cC (fun _ w=>lS ra 22 ho.1 (by decide) w)<|cA (v:=fun ρ=>(.int .u32 (bits .xor .u32 (((aH ra 2)^^^(aH ra 13):Nat):Int) ((aH ra 22:Nat):Int)))) (fun _=>(vu (((aH ra 2)^^^(aH ra 13))^^^(aH ra 22)))) (fun _=>jN (lH (lU (dE _ ho.1) (dE _ ho.1)) (dE _ ho.1)))<|cR [[],[]]<|cA (fun _=>(vu (ra&&&rb))) (fun _=>jN (xR ho.1 ho.2.1))<|cR [[],[]]<|cA (fun _=>(vu (ra&&&rc))) (fun _=>jN (xR ho.1 ho.2.2.1))<|cA (v:=fun ρ=>(.int .u32 (bits .xor .u32 ((ra&&&rb:Nat):Int) ((ra&&&rc:Nat):Int)))) (fun _=>(vu ((ra&&&rb)^^^(ra&&&rc)))) (fun _=>jN (lH (iR _ ho.1) (iR _ ho.1)))<|cR [[],[]]<|cA (fun _=>(vu (rb&&&rc))) (fun _=>jN (xR ho.2.1 ho.2.2.1))<|cA (v:=fun ρ=>(.int .u32 (bits .xor .u32 (((ra&&&rb)^^^(ra&&&rc):Nat):Int) ((rb&&&rc:Nat):Int)))) (fun _=>(vu (((ra&&&rb)^^^(ra&&&rc))^^^(rb&&&rc)))) (fun _=>jN (lH (lU (iR _ ho.1) (iR _ ho.1)) (iR _ ho.2.1)))<|cA (fun _=>(vu (add32 (((aH ra 2)^^^(aH ra 13))^^^(aH ra 22)) (((ra&&&rb)^^^(ra&&&rc))^^^(rb&&&rc))))) (fun _=>jN (bP (((aH ra 2)^^^(aH ra 13))^^^(aH ra 22)) (((ra&&&rb)^^^(ra&&&rc))^^^(rb&&&rc))))<|jE [[]]) (fun _=>rS f199 20 [2,4,5,6,7,8,9,10,11,12,13,35] [] (fun _=>let qa:=vu (add32 (add32 (add32 (add32 (add32 rh (((aH re 6)^^^(aH re 11))^^^(aH re 25))) ((re&&&rf)^^^((dW re)&&&rg))) (kN i)) (wN X i)) (add32 (((aH ra 2)^^^(aH ra 13))^^^(aH ra 22)) (((ra&&&rb)^^^(ra&&&rc))^^^(rb&&&rc))));let qb:=vu (add32 rd (add32 (add32 (add32 (add32 rh (((aH re 6)^^^(aH re 11))^^^(aH re 25))) ((re&&&rf)^^^((dW re)&&&rg))) (kN i)) (wN X i)));let qc:=vu (add32 (add32 (add32 (add32 rh (((aH re 6)^^^(aH re 11))^^^(aH re 25))) ((re&&&rf)^^^((dW re)&&&rg))) (kN i)) (wN X i));[qc,vu (add32 (((aH ra 2)^^^(aH ra 13))^^^(aH ra 22)) (((ra&&&rb)^^^(ra&&&rc))^^^(rb&&&rc))),qa,vu ra,vu rb,vu rc,vu rd,qc,qb,vu re,vu rf,vu rg,qa,vu ra,vu rb,vu rc,qb,vu re,vu rf,vu rg]) (fun _=>[]) (cR [[],[]]<|cA (fun _=>(vu (add32 (add32 (add32 (add32 (add32 rh (((aH re 6)^^^(aH re 11))^^^(aH re 25))) ((re&&&rf)^^^((dW re)&&&rg))) (kN i)) (wN X i)) (add32 (((aH ra 2)^^^(aH ra 13))^^^(aH ra 22)) (((ra&&&rb)^^^(ra&&&rc))^^^(rb&&&rc)))))) (fun _=>jN (bP (add32 (add32 (add32 (add32 rh (((aH re 6)^^^(aH re 11))^^^(aH re 25))) ((re&&&rf)^^^((dW re)&&&rg))) (kN i)) (wN X i)) (add32 (((aH ra 2)^^^(aH ra 13))^^^(aH ra 22)) (((ra&&&rb)^^^(ra&&&rc))^^^(rb&&&rc)))))<|cR [[],[],[],[],[]]<|cA (fun _=>(vu (add32 rd (add32 (add32 (add32 (add32 rh (((aH re 6)^^^(aH re 11))^^^(aH re 25))) ((re&&&rf)^^^((dW re)&&&rg))) (kN i)) (wN X i))))) (fun _=>jN (bP rd (add32 (add32 (add32 (add32 rh (((aH re 6)^^^(aH re 11))^^^(aH re 25))) ((re&&&rf)^^^((dW re)&&&rg))) (kN i)) (wN X i))))<|jE [[],[],[],[],[],[],[],[],[],[],[]]) (fun _=>aJ (aA (rS f199 2 [2,4,5,6,7,8,9,10,11,12,13,35] [] (fun _=>[vn (i+1),vn (i+1)]) (fun _=>[]) (jW (fun ρ=>(((i:Nat):Int)+1)) (fun _=>(i+1)) (fun _=>(aW i 1 om))<|jE [[]]) (fun _=>?_)))))))))))
  exact mN (i+1,add32 (add32 (add32 (add32 (add32 rh (((aH re 6)^^^(aH re 11))^^^(aH re 25))) ((re&&&rf)^^^((dW re)&&&rg))) (kN i)) (wN X i)) (add32 (((aH ra 2)^^^(aH ra 13))^^^(aH ra 22)) (((ra&&&rb)^^^(ra&&&rc))^^^(rb&&&rc))),ra,rb,rc,add32 rd (add32 (add32 (add32 (add32 rh (((aH re 6)^^^(aH re 11))^^^(aH re 25))) ((re&&&rf)^^^((dW re)&&&rg))) (kN i)) (wN X i)),re,rf,rg) (by show 64-(i+1)<64-i;omega) (⟨om,rnds_next hr⟩) []
 rw [hb1]
 refine bF (aN (aN (aT (aA (sS f199 34 [4] [0,1,0] (fun _=>[pt (nb ρ1 0),vu s0,vu ra,vu (add32 s0 ra),jp (nb ρ1 0) 1,vu s1,vu rb,vu (add32 s1 rb),jp (nb ρ1 0) 2,vu s2,vu rc,vu (add32 s2 rc),jp (nb ρ1 0) 3,vu s3,vu rd,vu (add32 s3 rd),jp (nb ρ1 0) 4,vu s4,vu re,vu (add32 s4 re),jp (nb ρ1 0) 5,vu s5,vu rf,vu (add32 s5 rf),jp (nb ρ1 0) 6,vu s6,vu rg,vu (add32 s6 rg),jp (nb ρ1 0) 7,vu s7,vu rh,vu (add32 s7 rh),.agg #[vu (add32 s0 ra),vu (add32 s1 rb),vu (add32 s2 rc),vu (add32 s3 rd),vu (add32 s4 re),vu (add32 s5 rf),vu (add32 s6 rg),vu (add32 s7 rh)],undef]) (fun _=>[(33,(bD 1 (nb ρ1 2) (cL #[vu (add32 s0 ra),vu (add32 s1 rb),vu (add32 s2 rc),vu (add32 s3 rd),vu (add32 s4 re),vu (add32 s5 rf),vu (add32 s6 rg),vu (add32 s7 rh)] 163)))]) (cR [[],[0],[]]<|cA (fun _=>(vu (add32 s0 ra))) (fun _=>jN (bP s0 ra))<|cR [[],[0],[]]<|cA (fun _=>(vu (add32 s1 rb))) (fun _=>jN (bP s1 rb))<|cR [[],[0],[]]<|cA (fun _=>(vu (add32 s2 rc))) (fun _=>jN (bP s2 rc))<|cR [[],[0],[]]<|cA (fun _=>(vu (add32 s3 rd))) (fun _=>jN (bP s3 rd))<|cR [[],[0],[]]<|cA (fun _=>(vu (add32 s4 re))) (fun _=>jN (bP s4 re))<|cR [[],[0],[]]<|cA (fun _=>(vu (add32 s5 rf))) (fun _=>jN (bP s5 rf))<|cR [[],[0],[]]<|cA (fun _=>(vu (add32 s6 rg))) (fun _=>jN (bP s6 rg))<|cR [[],[0],[]]<|cA (fun _=>(vu (add32 s7 rh))) (fun _=>jN (bP s7 rh))<|jE [[],[1]]) (fun _=>aF ?_))))))
 exact mR (v:=(.agg #[vu (add32 s0 ra),vu (add32 s1 rb),vu (add32 s2 rc),vu (add32 s3 rd),vu (add32 s4 re),vu (add32 s5 rf),vu (add32 s6 rg),vu (add32 s7 rh)])) (fun _ hS=>⟨congrArg Ending.returned (by rw [cmp_end hr (show i=64 by have:=yF hb1;omega)]),hS.bel⟩)
theorem sum_any (a:Option Addr) (c:Nat) (B:List UInt8) (h0:0<B.length) (hl:B.length+73≤140737488351232) (w0:World) (hf0:Bs w0 a c B) (hf1:kJ w0) (hf2:fU w0):Calls prog 178 #[.slice a B.length c] w0 (jR (.agg (hB (aU B))) w0):=by
 refine Calls.of_ok (n:=48) (F:=(fun w=>Bs w a c B∧kJ w∧fU w∧True)) func178 rfl rfl rfl (by simp) (hf0.pers0.and (hf1.pers0.and (hf2.pers0.and cO))) (sS f178 1 [0,2] [] (fun ρ=>[pt (nb ρ 0)]) (fun ρ=>[(0,(nw ρ 0 (cL (hB 0) 57)))]) (jE [[]]) (fun ρ1=>iZ f178 8 [2,3] [1,0] (fun ρ=>let qa:Value:=.slice (oa ρ 6) (B++(aY B.length)).length (nb ρ 6);[.slice a B.length c,.slice a B.length c,vn B.length,vx B.length,.slice (oa ρ 4) (aY B.length).length (nb ρ 4),vs (nb ρ 5) 2 2,qa,qa]) (fun ρ=>[(5,(nw ρ 5 (cL #[.slice a B.length c,.slice (oa ρ 4) (aY B.length).length (nb ρ 4)] 37)))]) (fun ρ=>[(4,fun w=>Fs w0 w (oa ρ 4) (nb ρ 4) (aY B.length)),(6,fun w=>Fs w0 w (oa ρ 6) (nb ρ 6) (B++(aY B.length)))]) (fun ρ=>(fun w=>Bs w a c B∧kJ w∧fU w∧Fs w0 w (oa ρ 4) (nb ρ 4) (aY B.length)∧Fs w0 w (oa ρ 6) (nb ρ 6) (B++(aY B.length))∧True)) (fun _=>True) (fun _ _ hF hf=>⟨⟨hF.1,hF.2.1,hF.2.2.1,hf 4,hf 6,trivial⟩,trivial⟩) (cR [[],[],[]]<|cA (v:=fun ρ=>(.int .u64 (IntKind.u64.wrap ((B.length:Nat):Int)))) (fun _=>(vx B.length)) (fun _=>congrArg (Value.int .u64) (u64N (oB (bJ B) (aS B.length))))<|cX (qB (fun _ _ w _=>pad_any B.length (oB (bJ B) (aS B.length)) w))<|cR [[]]<|cX (qB (fun ρ _ w hG=>yA (nb ρ 5) a c B (oa ρ 4) (nb ρ 4) (aY B.length) (oB (yG B.length) (aS B.length)) h0 w (Kb.of_block (hG.kn (g:=nb ρ 5) (o:=(cL #[.slice a B.length c,.slice (oa ρ 4) (aY B.length).length (nb ρ 4)] 37)) 41)) hG.fn.1 (show Fs w0 w (oa ρ 4) (nb ρ 4) (aY B.length) from (hG.facts 4 rfl).now).1))<|jE [[]]) (fun ρ2 _=>sS f178 3 [2,3,4] [] (fun ρ=>[.agg #[.int .u32 1779033703,.int .u32 3144134277,.int .u32 1013904242,.int .u32 2773480762,.int .u32 1359893119,.int .u32 2600822924,.int .u32 528734635,.int .u32 1541459225],pt (nb ρ 1),undef]) (fun ρ=>[(1,(nw ρ 1 (cL #[.int .u32 0,.int .u32 0,.int .u32 0,.int .u32 0,.int .u32 0,.int .u32 0,.int .u32 0,.int .u32 0] 163))),(2,(bD 9 (nb ρ 1) (cL #[.int .u32 1779033703,.int .u32 3144134277,.int .u32 1013904242,.int .u32 2773480762,.int .u32 1359893119,.int .u32 2600822924,.int .u32 528734635,.int .u32 1541459225] 163)))]) (cX (qF (v:=fun ρ=>(.agg #[.int .u32 1779033703,.int .u32 3144134277,.int .u32 1013904242,.int .u32 2773480762,.int .u32 1359893119,.int .u32 2600822924,.int .u32 528734635,.int .u32 1541459225])) (fun _ _ _ hG=>ld_blkA (off:=0) (vs:=[.int .u32 1779033703,.int .u32 3144134277,.int .u32 1013904242,.int .u32 2773480762,.int .u32 1359893119,.int .u32 2600822924,.int .u32 528734635,.int .u32 1541459225]) isAgg163 sizeOf163 hG.fn.2.2.1 rfl (fun _ _=>by rw [Nat.zero_add];simp)))<|jE [[],[9]]) (fun ρ3=>aB (sS f178 4 [2,3,4,18,19] [] (fun _=>[.slice (oa ρ2 6) (B++(aY B.length)).length (nb ρ2 6),vn (B++(aY B.length)).length,vn ((B++(aY B.length)).length / 64),vi 0]) (fun _=>[]) (cR [[],[]]<|cB (a:=fun ρ=>(vn (B++(aY B.length)).length)) (b:=fun ρ=>(vi 64)) (v:=fun ρ=>(vn ((B++(aY B.length)).length / 64))) .quo 3 (fun _ w=>run_quoI (n:=(B++(aY B.length)).length) (d:=64) (by decide) (oB (bJ B) (aS B.length)) w)<|jE [[]]) (fun _=>aI ?_))))))
 refine oL (σ:=Nat × Nat × Nat × Nat × Nat × Nat × Nat × Nat × Nat) (fun ⟨i,_,_,_,_,_,_,_,_⟩=>[(2,(pt (nb ρ1 0))),(3,(.slice (oa ρ2 6) (B++(aY B.length)).length (nb ρ2 6))),(4,(pt (nb ρ3 1))),(18,(vn ((B++(aY B.length)).length / 64))),(19,(vn i))]) (fun ⟨_,t0,t1,t2,t3,t4,t5,t6,t7⟩=>[(nb ρ1 0,(cL (hB 0) 57)),(nb ρ3 1,(cL #[vu t0,vu t1,vu t2,vu t3,vu t4,vu t5,vu t6,vu t7] 163))]) (fun ⟨i,_,_,_,_,_,_,_,_⟩=>(B++(aY B.length)).length / 64-i)
  (fun ⟨i,t0,t1,t2,t3,t4,t5,t6,t7⟩=>(i≤(B++(aY B.length)).length / 64)∧(xBK (B++(aY B.length)) i=(t0,t1,t2,t3,t4,t5,t6,t7))) (0,1779033703,3144134277,1013904242,2773480762,1359893119,2600822924,528734635,1541459225) (⟨Nat.zero_le _,rfl⟩) [] ?_
 rintro ⟨i,t0,t1,t2,t3,t4,t5,t6,t7⟩ ⟨hi,hQ⟩
 refine jJ f178 1 [2,3,4,18,19,20] [.bool (decide (((i:Nat):Int)<(((B++(aY B.length)).length / 64:Nat):Int)))] (aB (oC (decide (((i:Nat):Int)<(((B++(aY B.length)).length / 64:Nat):Int))) (fun hb1=>?_) (fun hb1=>?_)))
 ·rw [hb1]
  have:=yT hb1
  refine aG (aA (aB (aI (jJ f178 2 [2,3,4,5,18,19] [vn i,vn i] (rDf f178 [0,0,0,4,14,30,62,127,255] 9 [2,3,4,18,19] [] (fun _=>[.agg #[vu t0,vu t1,vu t2,vu t3,vu t4,vu t5,vu t6,vu t7],.slice (oa ρ2 6) (B++(aY B.length)).length (nb ρ2 6),vn i,vn (64*i),.slice (uF (oa ρ2 6) (64*i) (nb ρ2 6)) (mid (B++(aY B.length)) (64*i) (B++(aY B.length)).length).length ((nb ρ2 6)-(64*i)),.pointer (uF (oa ρ2 6) (64*i) (nb ρ2 6)),.agg (bs ((mid (B++(aY B.length)) (64*i) (B++(aY B.length)).length).take 64)).toArray,.agg #[vu ((eF (t0,t1,t2,t3,t4,t5,t6,t7) ((mid (B++(aY B.length)) (64*i) (B++(aY B.length)).length).take 64)).1),vu ((eF (t0,t1,t2,t3,t4,t5,t6,t7) ((mid (B++(aY B.length)) (64*i) (B++(aY B.length)).length).take 64)).2.1),vu ((eF (t0,t1,t2,t3,t4,t5,t6,t7) ((mid (B++(aY B.length)) (64*i) (B++(aY B.length)).length).take 64)).2.2.1),vu ((eF (t0,t1,t2,t3,t4,t5,t6,t7) ((mid (B++(aY B.length)) (64*i) (B++(aY B.length)).length).take 64)).2.2.2.1),vu ((eF (t0,t1,t2,t3,t4,t5,t6,t7) ((mid (B++(aY B.length)) (64*i) (B++(aY B.length)).length).take 64)).2.2.2.2.1),vu ((eF (t0,t1,t2,t3,t4,t5,t6,t7) ((mid (B++(aY B.length)) (64*i) (B++(aY B.length)).length).take 64)).2.2.2.2.2.1),vu ((eF (t0,t1,t2,t3,t4,t5,t6,t7) ((mid (B++(aY B.length)) (64*i) (B++(aY B.length)).length).take 64)).2.2.2.2.2.2.1),vu ((eF (t0,t1,t2,t3,t4,t5,t6,t7) ((mid (B++(aY B.length)) (64*i) (B++(aY B.length)).length).take 64)).2.2.2.2.2.2.2)],undef]) (fun _=>[(8,(bD 1 (nb ρ3 1) (cL #[vu ((eF (t0,t1,t2,t3,t4,t5,t6,t7) ((mid (B++(aY B.length)) (64*i) (B++(aY B.length)).length).take 64)).1),vu ((eF (t0,t1,t2,t3,t4,t5,t6,t7) ((mid (B++(aY B.length)) (64*i) (B++(aY B.length)).length).take 64)).2.1),vu ((eF (t0,t1,t2,t3,t4,t5,t6,t7) ((mid (B++(aY B.length)) (64*i) (B++(aY B.length)).length).take 64)).2.2.1),vu ((eF (t0,t1,t2,t3,t4,t5,t6,t7) ((mid (B++(aY B.length)) (64*i) (B++(aY B.length)).length).take 64)).2.2.2.1),vu ((eF (t0,t1,t2,t3,t4,t5,t6,t7) ((mid (B++(aY B.length)) (64*i) (B++(aY B.length)).length).take 64)).2.2.2.2.1),vu ((eF (t0,t1,t2,t3,t4,t5,t6,t7) ((mid (B++(aY B.length)) (64*i) (B++(aY B.length)).length).take 64)).2.2.2.2.2.1),vu ((eF (t0,t1,t2,t3,t4,t5,t6,t7) ((mid (B++(aY B.length)) (64*i) (B++(aY B.length)).length).take 64)).2.2.2.2.2.2.1),vu ((eF (t0,t1,t2,t3,t4,t5,t6,t7) ((mid (B++(aY B.length)) (64*i) (B++(aY B.length)).length).take 64)).2.2.2.2.2.2.2)] 163)))]) (fun _=>[(4,fun w=>Bs w (uF (oa ρ2 6) (64*i) (nb ρ2 6)) ((nb ρ2 6)-(64*i)) (mid (B++(aY B.length)) (64*i) (B++(aY B.length)).length))]) (fun _=>(fun w=>Bs w a c B∧kJ w∧fU w∧Fs w0 w (oa ρ2 4) (nb ρ2 4) (aY B.length)∧Fs w0 w (oa ρ2 6) (nb ρ2 6) (B++(aY B.length))∧Bs w (uF (oa ρ2 6) (64*i) (nb ρ2 6)) ((nb ρ2 6)-(64*i)) (mid (B++(aY B.length)) (64*i) (B++(aY B.length)).length)∧True)) (fun _=>True) (fun _ _ hF hf=>⟨⟨hF.1,hF.2.1,hF.2.2.1,hF.2.2.2.1,hF.2.2.2.2.1,hf 4,trivial⟩,trivial⟩) (cR [[1],[],[]]<|jW (fun ρ=>(64*((i:Nat):Int))) (fun _=>(64*i)) (fun _=>(fQ 64 i (oB (bJ B) (aS B.length))))<|cX (jF (fun _=>Instr.sliceAt 37 (.slice (oa ρ2 6) (B++(aY B.length)).length (nb ρ2 6)) (some (vn (64*i))) none none) (fun _=>(.slice (uF (oa ρ2 6) (64*i) (nb ρ2 6)) (mid (B++(aY B.length)) (64*i) (B++(aY B.length)).length).length ((nb ρ2 6)-(64*i)))) (fun _ _ _ hG=>vH (l:=64*i) (k:=(B++(aY B.length)).length) underlying37 nH hG.fn.2.2.2.2.1.1 rfl (Or.inr (congrArg (fun z=>some (Value.int .i64 z)) (rfl))) (Or.inl ⟨rfl,rfl⟩) (oB (bJ B) (aS B.length)) (Nat.le_refl _)) (fun _ _ w hG=>hG.facts0.mono (fun _ hF=>hF.2.2.2.2.1.1.mid (oB (bJ B) (aS B.length)) (Nat.le_refl _))))<|cX (jF (fun _=>Instr.arrayAt 165 (.slice (uF (oa ρ2 6) (64*i) (nb ρ2 6)) (mid (B++(aY B.length)) (64*i) (B++(aY B.length)).length).length ((nb ρ2 6)-(64*i)))) (fun _=>(.pointer (uF (oa ρ2 6) (64*i) (nb ρ2 6)))) (fun _ _ _ _=>arr_bytes underlying165 (by rw [kS _ _ _ (Nat.le_refl _)];have:=bJ B;have:=aS B.length;omega)) (fun _ _ _ _=>cO))<|cX (qF (fun _ _ w hG=>ld_arr isAgg165 sizeOf165 (show Bs w (uF (oa ρ2 6) (64*i) (nb ρ2 6)) ((nb ρ2 6)-(64*i)) (mid (B++(aY B.length)) (64*i) (B++(aY B.length)).length) from (hG.facts 4 rfl).now) (by rw [kS _ _ _ (Nat.le_refl _)];have:=bJ B;have:=aS B.length;omega) (by decide)))<|cX (qC (fun _ _ w hG=>compress_any t0 t1 t2 t3 t4 t5 t6 t7 ((mid (B++(aY B.length)) (64*i) (B++(aY B.length)).length).take 64) (hQ ▸ xA (B++(aY B.length)) i) (by rw [List.length_take,kS _ _ _ (Nat.le_refl _)];have:=bJ B;have:=aS B.length;omega) w hG.fn.2.1))<|jE [[1]]) (fun _ _=>aJ (aA (rS f178 2 [2,3,4,18,19] [] (fun _=>[vn (i+1),vn (i+1)]) (fun _=>[]) (jW (fun ρ=>(((i:Nat):Int)+1)) (fun _=>(i+1)) (fun _=>(aW i 1 (oB (bJ B) (aS B.length))))<|jE [[]]) (fun _=>nD (fun w=>Bs w a c B∧kJ w∧fU w∧Fs w0 w (oa ρ2 4) (nb ρ2 4) (aY B.length)∧Fs w0 w (oa ρ2 6) (nb ρ2 6) (B++(aY B.length))∧True) (fun w hF=>⟨hF.1,hF.2.1,hF.2.2.1,hF.2.2.2.1,hF.2.2.2.2.1,trivial⟩) ?_)))))))))
  exact mN (i+1,(eF (t0,t1,t2,t3,t4,t5,t6,t7) ((mid (B++(aY B.length)) (64*i) (B++(aY B.length)).length).take 64)).1,(eF (t0,t1,t2,t3,t4,t5,t6,t7) ((mid (B++(aY B.length)) (64*i) (B++(aY B.length)).length).take 64)).2.1,(eF (t0,t1,t2,t3,t4,t5,t6,t7) ((mid (B++(aY B.length)) (64*i) (B++(aY B.length)).length).take 64)).2.2.1,(eF (t0,t1,t2,t3,t4,t5,t6,t7) ((mid (B++(aY B.length)) (64*i) (B++(aY B.length)).length).take 64)).2.2.2.1,(eF (t0,t1,t2,t3,t4,t5,t6,t7) ((mid (B++(aY B.length)) (64*i) (B++(aY B.length)).length).take 64)).2.2.2.2.1,(eF (t0,t1,t2,t3,t4,t5,t6,t7) ((mid (B++(aY B.length)) (64*i) (B++(aY B.length)).length).take 64)).2.2.2.2.2.1,(eF (t0,t1,t2,t3,t4,t5,t6,t7) ((mid (B++(aY B.length)) (64*i) (B++(aY B.length)).length).take 64)).2.2.2.2.2.2.1,(eF (t0,t1,t2,t3,t4,t5,t6,t7) ((mid (B++(aY B.length)) (64*i) (B++(aY B.length)).length).take 64)).2.2.2.2.2.2.2) (by show (B++(aY B.length)).length / 64-(i+1)<(B++(aY B.length)).length / 64-i;have:=bJ B;have:=aS B.length;omega) (⟨(oB (bJ B) (aS B.length)),sha_next hQ (oB (bJ B) (aS B.length))⟩) []
 rw [hb1]
 have:=yF hb1
 refine bF (aN (aN (aT (aA (sS f178 1 [2,4,6] [] (fun ρ=>[pt (nb ρ 0)]) (fun ρ=>[(0,(nw ρ 0 (cL (hB 0) 57)))]) (jE [[]]) (fun ρ9=>aB (jJ f178 1 [2,4,6,31] [vi 0] (aI ?_))))))))
 refine oL (σ:=Nat × (Array Value)) (fun ⟨m,_⟩=>[(2,(pt (nb ρ1 0))),(4,(pt (nb ρ3 1))),(6,(pt (nb ρ9 0))),(31,(vn m))]) (fun ⟨_,C⟩=>[(nb ρ1 0,(cL (hB 0) 57)),(nb ρ3 1,(cL #[vu t0,vu t1,vu t2,vu t3,vu t4,vu t5,vu t6,vu t7] 163)),(nb ρ9 0,(cL C 57))]) (fun ⟨m,_⟩=>32-m)
  (fun ⟨m,C⟩=>(m≤32)∧(C=bY .u8 32 (yU (t0,t1,t2,t3,t4,t5,t6,t7) m))) (0,hB 0) (⟨by decide,hB0_row (t0,t1,t2,t3,t4,t5,t6,t7)⟩) [] ?_
 rintro ⟨m,C⟩ ⟨hm,hC⟩
 refine jJ f178 1 [2,4,6,31,32] [.bool (decide (((m:Nat):Int)<32))] (aB (oC (decide (((m:Nat):Int)<32)) (fun hb2=>?_) (fun hb2=>?_)))
 ·rw [hb2]
  have:=yT hb2
  refine aG (aA (aB (aI (jJ f178 2 [2,4,6,7,31] [vn m,vn m] (rS f178 13 [2,4,6,31] [] (fun _=>[vn m,vn m,vn (m / 4),jp (nb ρ3 1) (m / 4),vu (iT (t0,t1,t2,t3,t4,t5,t6,t7) (m / 4)),vn m,vn (m%4),vn ((m%4)*8),vn (24-m%4*8),vu (iT (t0,t1,t2,t3,t4,t5,t6,t7) (m / 4) / 2^(24-m%4*8)),vy (iT (t0,t1,t2,t3,t4,t5,t6,t7) (m / 4) / 2^(24-m%4*8)%256),jp (nb ρ9 0) m,undef]) (fun _=>[(12,(bD 2 (nb ρ9 0) (cL (C.setIfInBounds m (vy (iT (t0,t1,t2,t3,t4,t5,t6,t7) (m / 4) / 2^(24-m%4*8)%256))) 57)))]) (cR [[],[]]<|cB (a:=fun ρ=>(vn m)) (b:=fun ρ=>(vi 4)) (v:=fun ρ=>(vn (m / 4))) .quo 3 (fun _ w=>run_quoI (n:=m) (d:=4) (by decide) (oB (bJ B) (aS B.length)) w)<|cX (jS (fun _=>Instr.indexAt 163 (pt (nb ρ3 1)) (vn (m / 4))) (fun _=>(jp (nb ρ3 1) (m / 4))) (fun _ w=>aX (n:=((m / 4:Nat):Int)) (i:=m / 4) underlying163 sizeOf55 (oB (bJ B) (aS B.length)) w))<|cX (kG _ 1 55 (fun _=>nb ρ3 1) (fun _=>m / 4) (fun _=> #[vu t0,vu t1,vu t2,vu t3,vu t4,vu t5,vu t6,vu t7]) 163 (0,0) (fun _=>(vu (iT (t0,t1,t2,t3,t4,t5,t6,t7) (m / 4)))) (fun _=>by kernel_rfl) isAgg55 (fun _=>sel_get (oB (bJ B) (aS B.length))))<|cR [[]]<|cB (a:=fun ρ=>(vn m)) (b:=fun ρ=>(vi 4)) (v:=fun ρ=>(vn (m%4))) .rem 3 (fun _ w=>zT (k:=.i64) (n:=m) (d:=4) (by decide) w)<|jW (fun ρ=>(((m%4:Nat):Int)*8)) (fun _=>((m%4)*8)) (fun _=>(fQ (m%4) 8 (oB (bJ B) (aS B.length))))<|jW (fun ρ=>(24-(((m%4)*8:Nat):Int))) (fun _=>(24-m%4*8)) (fun _=>((gZ (oB (bJ B) (aS B.length))).trans om))<|cB (a:=fun ρ=>(vu (iT (t0,t1,t2,t3,t4,t5,t6,t7) (m / 4)))) (b:=fun ρ=>(vn (24-m%4*8))) (v:=fun ρ=>(vu (iT (t0,t1,t2,t3,t4,t5,t6,t7) (m / 4) / 2^(24-m%4*8)))) .shr 55 (fun _ w=>gG (k:=.u32) (x:=iT (t0,t1,t2,t3,t4,t5,t6,t7) (m / 4)) (c:=24-m%4*8) (sel8_lt (hQ ▸ xA _ i) _) w)<|cA (fun _=>(vy (iT (t0,t1,t2,t3,t4,t5,t6,t7) (m / 4) / 2^(24-m%4*8)%256))) (fun _=>congrArg (Value.int .u8) (u8M (iT (t0,t1,t2,t3,t4,t5,t6,t7) (m / 4) / 2^(24-m%4*8))))<|cX (jS (fun _=>Instr.indexAt 57 (pt (nb ρ9 0)) (vn m)) (fun _=>(jp (nb ρ9 0) m)) (fun _ w=>aX (n:=((m:Nat):Int)) (i:=m) underlying57 sizeOf5 (oB (bJ B) (aS B.length)) w))<|cX (qG _ 2 5 (fun _=>nb ρ9 0) (fun _=>m) (fun _=>C) (fun _=>(C.setIfInBounds m (vy (iT (t0,t1,t2,t3,t4,t5,t6,t7) (m / 4) / 2^(24-m%4*8)%256)))) 57 (fun _=>(vy (iT (t0,t1,t2,t3,t4,t5,t6,t7) (m / 4) / 2^(24-m%4*8)%256))) (fun _=>by kernel_rfl) sizeOf5 (fun _=>rfl) (fun _=>(by rw [hC,eH];have:=bJ B;have:=aS B.length;omega)) (fun _=>rfl))<|cN) (fun _=>aJ (aA (rS f178 2 [2,4,6,31] [] (fun _=>[vn (m+1),vn (m+1)]) (fun _=>[]) (jW (fun ρ=>(((m:Nat):Int)+1)) (fun _=>(m+1)) (fun _=>(aW m 1 (oB (bJ B) (aS B.length))))<|jE [[]]) (fun _=>?_)))))))))
  exact mN (m+1,C.setIfInBounds m (vy (iT (t0,t1,t2,t3,t4,t5,t6,t7) (m / 4) / 2^(24-m%4*8)%256))) (by show 32-(m+1)<32-m;have:=bJ B;have:=aS B.length;omega) (⟨(oB (bJ B) (aS B.length)),by rw [hC];exact zI rfl⟩) []
 rw [hb2]
 refine bF (aN (aN (aT ?_)))
 rw [hC]
 refine aA (sS f178 2 [2] [1,0,0] (fun _=>[.agg (bY .u8 32 (yU (t0,t1,t2,t3,t4,t5,t6,t7) m)),undef]) (fun _=>[(1,(bD 0 (nb ρ1 0) (cL (bY .u8 32 (yU (t0,t1,t2,t3,t4,t5,t6,t7) m)) 57)))]) (cX (qF (fun _ _ _ hG=>vS isAgg57 sizeOf57 (hG.kn (g:=nb ρ9 0) (o:=(cL (bY .u8 32 (yU (t0,t1,t2,t3,t4,t5,t6,t7) m)) 57)) 2) (eH _ _ _)))<|jE [[0]]) (fun _=>aF ?_))
 exact mR (v:=(.agg (bY .u8 32 (yU (t0,t1,t2,t3,t4,t5,t6,t7) m)))) (fun _ hS=>⟨congrArg Ending.returned (congrArg Value.agg ((dgf_end (by have:=yF hb2;have:=bJ B;have:=aS B.length;omega)).trans (congrArg hB (sha_end hQ (by have:=yF hb2;have:=bJ B;have:=aS B.length;omega))))),hS.bel⟩)
theorem yM (T:List UInt8) (a:Option Addr) (c:Nat) (B:List UInt8) (hT:0<T.length∧T.length≤1000) (hl:B.length+200≤140737488351232) (w0:World) (hf0:Bs w0 a c B) (hf1:kJ w0) (hf2:fU w0):Calls prog 175 #[.string (gY T),.slice a B.length c] w0 (jR (.agg (hB (lV T B))) w0):=by
 refine Calls.of_ok (n:=15) (F:=(fun w=>Bs w a c B∧kJ w∧fU w∧True)) func175 rfl rfl rfl (by simp) (hf0.pers0.and (hf1.pers0.and (hf2.pers0.and cO))) (sS f175 1 [0,1,4] [] (fun ρ=>[pt (nb ρ 0)]) (fun ρ=>[(0,(nw ρ 0 (cL (hB 0) 57)))]) (jE [[]]) (fun ρ1=>iZ f175 5 [1,4,5] [] (fun ρ=>[.string (gY T),.slice (oa ρ 1) T.length (nb ρ 1),.agg (hB (aU T)),pt (nb ρ 3),undef]) (fun ρ=>[(3,(nw ρ 3 (cL (hB 0) 57))),(4,(bD 25 (nb ρ 3) (cL (hB (aU T)) 57)))]) (fun ρ=>[(1,fun w=>Fs w0 w (oa ρ 1) (nb ρ 1) T)]) (fun ρ=>(fun w=>Bs w a c B∧kJ w∧fU w∧Fs w0 w (oa ρ 1) (nb ρ 1) T∧True)) (fun _=>True) (fun _ _ hF hf=>⟨⟨hF.1,hF.2.1,hF.2.2.1,hf 1,trivial⟩,trivial⟩) (cR [[]]<|cX (o_newF _ (fun _=>do pure (Next.value (← convert 9 37 (.string (gY T))))) (fun _ α κ=>(.slice α T.length κ)) (fun _=>T) (fun _ _=>(by kernel_rfl)) (fun _=>(by kernel_rfl)) (fun _ _=>(by kernel_rfl)) (fun _ _ w _=>bytes_str underlying9 underlying37 underlying5 T om w))<|cX (qC (fun ρ _ w hG=>sum_any (oa ρ 1) (nb ρ 1) T hT.1 om w (show Fs w0 w (oa ρ 1) (nb ρ 1) T from (hG.facts 1 rfl).now).1 hG.fn.2.1 hG.fn.2.2.1))<|jE [[],[25]]) (fun ρ2 _=>sDf f175 [0,0,0,7,15,31,63] 7 [4] [1,0,0] (fun ρ=>let qa:=vs (nb ρ2 3) (hL (aU T)).length 32;[qa,qa,.slice a B.length c,vs (nb ρ 3) 3 3,.slice (oa ρ 4) (((hL (aU T))++(hL (aU T)))++B).length (nb ρ 4),.agg (hB (aU (((hL (aU T))++(hL (aU T)))++B))),undef]) (fun ρ=>let qa:=vs (nb ρ2 3) (hL (aU T)).length 32;[(3,(nw ρ 3 (cL #[qa,qa,.slice a B.length c] 37))),(6,(bD 0 (nb ρ1 0) (cL (hB (aU (((hL (aU T))++(hL (aU T)))++B))) 57)))]) (fun ρ=>[(4,fun w=>Fs w0 w (oa ρ 4) (nb ρ 4) (((hL (aU T))++(hL (aU T)))++B))]) (fun ρ=>(fun w=>Bs w a c B∧kJ w∧fU w∧Fs w0 w (oa ρ2 1) (nb ρ2 1) T∧Fs w0 w (oa ρ 4) (nb ρ 4) (((hL (aU T))++(hL (aU T)))++B)∧True)) (fun _=>True) (fun _ _ hF hf=>⟨⟨hF.1,hF.2.1,hF.2.2.1,hF.2.2.2.1,hf 4,trivial⟩,trivial⟩) (cR [[],[],[],[]]<|cX (qB (fun ρ _ w hG=>shrow3_any (nb ρ 3) (some ⟨nb ρ2 3,0,none⟩) 32 (hL (aU T)) (some ⟨nb ρ2 3,0,none⟩) 32 (hL (aU T)) a c B (by simp only [aO];omega) (by rw [aO];decide) w (Kb.of_block (hG.kn (g:=nb ρ 3) (o:=(cL #[vs (nb ρ2 3) (hL (aU T)).length 32,vs (nb ρ2 3) (hL (aU T)).length 32,.slice a B.length c] 37)) 26)) (Bs.of_hd (c:=32) (hG.kn (g:=nb ρ2 3) (o:=(cL (hB (aU T)) 57)) 1) (tN _) (Nat.le_refl _) (Nat.le_of_ble_eq_true rfl)) (Bs.of_hd (c:=32) (hG.kn (g:=nb ρ2 3) (o:=(cL (hB (aU T)) 57)) 1) (tN _) (Nat.le_refl _) (Nat.le_of_ble_eq_true rfl)) hG.fn.1))<|cX (qC (fun ρ _ w hG=>sum_any (oa ρ 4) (nb ρ 4) (((hL (aU T))++(hL (aU T)))++B) (by simp only [List.length_append,aO];omega) (by simp only [List.length_append,aO];omega) w (show Fs w0 w (oa ρ 4) (nb ρ 4) (((hL (aU T))++(hL (aU T)))++B) from (hG.facts 4 rfl).now).1 hG.fn.2.1 hG.fn.2.2.1))<|jE [[0]]) (fun _ _=>aF ?_))))
 exact mR (v:=(.agg (hB (aU (((hL (aU T))++(hL (aU T)))++B))))) (fun _ hS=>⟨congrArg Ending.returned (congrArg (fun z=>Value.agg (hB z)) (by rw [lV,hL_sha])),hS.bel⟩)
theorem reduce_w (a:Nat) (m:Nat) (ha:a<M) (hm:m<M) (w0:World):Calls prog 208 #[U a,U m] w0 (jR (U (aQ a m)) w0):=by
 refine Calls.of_ok (n:=22) (F:=(fun _=>True)) func208 rfl rfl rfl (by simp) jT (sS f208 3 [2,3,4] [] (fun ρ=>[pt (nb ρ 0),pt (nb ρ 1),pt (nb ρ 2)]) (fun ρ=>[(0,(nw ρ 0 (cL (cU a) 64))),(1,(nw ρ 1 (cL (cU m) 64))),(2,(nw ρ 2 (cL (cU 0) 64)))]) (jE [[],[],[]]) (fun ρ1=>aB (sS f208 4 [2,3,4,11] [] (fun _=>[U a,U m,vi (fJ a m),.bool (decide ((fJ a m)<0))]) (fun _=>[]) (cR [[0],[1]]<|cC (fun _ w=>uN a m w ha hm)<|jE [[]]) (fun _=>oC (decide ((fJ a m)<0)) (fun hb1=>?_) (fun hb1=>?_)))))
 ·rw [hb1]
  refine sS f208 2 [2,3,4] [] (fun _=>[U a,undef]) (fun _=>[(1,(bD 2 (nb ρ1 2) (cL (cU a) 64)))]) (jE [[0],[2]]) (fun _=>aF (aC ?_))
  exact mR (v:=(U a)) (ps:=[2,2,2,2]) (fun _ hS=>⟨congrArg (fun x=>Ending.returned (U x)) (red_lt hb1),hS.bel⟩)
 rw [hb1]
 refine aG (aA (sS f208 13 [4,6] [0,0,1,0,1] (fun ρ=>let qa:Value:=.bool (decide (0<m));[U 0,U a,U m,.tuple #[U (qQ 0 a m),U (iV 0 a m),qa],.tuple #[U (qQ 0 a m),U (iV 0 a m),qa],U (qQ 0 a m),U (iV 0 a m),qa,pt (nb ρ 8),pt (nb ρ 9),undef,undef,qa]) (fun ρ=>[(8,(nw ρ 8 (cL (cU 0) 64))),(9,(nw ρ 9 (cL (cU 0) 64))),(10,(bD 67 (nb ρ 8) (cL (cU (qQ 0 a m)) 64))),(11,(bD 75 (nb ρ 9) (cL (cU (iV 0 a m)) 64)))]) (cR [[],[0],[1]]<|cC (fun _ w=>div_any 0 a m w (by decide +kernel) ha hm)<|jE [[],[],[],[],[],[],[67],[75],[]]) (fun _=>sS f208 2 [4] [1,0] (fun _=>[U (iV 0 a m),undef]) (fun _=>[(1,(bD 0 (nb ρ1 2) (cL (cU (iV 0 a m)) 64)))]) (jE [[1],[0]]) (fun _=>aF ?_))))
 exact mR (v:=(U (iV 0 a m))) (fun _ hS=>⟨congrArg (fun x=>Ending.returned (U x)) (red_div hb1),hS.bel⟩)
theorem yE (a m:Nat) (w0:World) (ha:a<M) (hm:m<M):Calls prog 208 #[U a,U m] w0 (jR (U (aQ a m)) w0):=reduce_w a m ha hm w0
theorem rreduce_w (a:Nat) (m:Nat) (ha:a<M) (hm:m<M) (w0:World):Calls prog 188 #[U a,U m] w0 (jR (U (aQ a m)) w0):=by
 refine Calls.of_ok (n:=17) (F:=(fun _=>True)) func188 rfl rfl rfl (by simp) jT (sS f188 3 [2,3,4] [] (fun ρ=>[pt (nb ρ 0),pt (nb ρ 1),pt (nb ρ 2)]) (fun ρ=>[(0,(nw ρ 0 (cL (cU a) 64))),(1,(nw ρ 1 (cL (cU m) 64))),(2,(nw ρ 2 (cL (cU 0) 64)))]) (jE [[],[],[]]) (fun ρ1=>sS f188 13 [4,6] [0,0,1,0,1] (fun ρ=>let qa:Value:=.bool (decide (0<m));[U 0,U a,U m,.tuple #[U (qQ 0 a m),U (iV 0 a m),qa],.tuple #[U (qQ 0 a m),U (iV 0 a m),qa],U (qQ 0 a m),U (iV 0 a m),qa,pt (nb ρ 8),pt (nb ρ 9),undef,undef,qa]) (fun ρ=>[(8,(nw ρ 8 (cL (cU 0) 64))),(9,(nw ρ 9 (cL (cU 0) 64))),(10,(bD 67 (nb ρ 8) (cL (cU (qQ 0 a m)) 64))),(11,(bD 75 (nb ρ 9) (cL (cU (iV 0 a m)) 64)))]) (cR [[],[0],[1]]<|cC (fun _ w=>rdiv_any 0 a m w (by decide +kernel) ha hm)<|jE [[],[],[],[],[],[],[67],[75],[]]) (fun _=>sS f188 2 [4] [1,0] (fun _=>[U (iV 0 a m),undef]) (fun _=>[(1,(bD 0 (nb ρ1 2) (cL (cU (iV 0 a m)) 64)))]) (jE [[1],[0]]) (fun _=>aF ?_))))
 exact mR (v:=(U (iV 0 a m))) (fun _ hS=>⟨congrArg (fun x=>Ending.returned (U x)) (red_div0 a m),hS.bel⟩)
theorem oM (a m:Nat) (w0:World) (ha:a<M) (hm:m<M):Calls prog 188 #[U a,U m] w0 (jR (U (aQ a m)) w0):=rreduce_w a m ha hm w0
theorem mul64_any (x y:Int) (hx:Word x) (hy:Word y) (w:World):Calls prog 205 #[.int .u64 x,.int .u64 y] w fun ε w'=>ε=.returned (.tuple #[.int .u64 (mJ x y),.int .u64 (bZ x y)])∧Below w.heap.size w w':=by
 obtain ⟨x,rfl⟩:=Int.eq_ofNat_of_zero_le hx.1
 obtain ⟨y,rfl⟩:=Int.eq_ofNat_of_zero_le hy.1
 refine (mul64_nat x y (oA hx.2) (oA hy.2) w).mono ?_
 rintro e w' ⟨rfl,rfl⟩
 refine ⟨?_,Below.refl _ _⟩
 unfold mJ bZ
 rw [Int.natCast_ediv,Int.natCast_emod,Int.natCast_mul];rfl
theorem mul_w (a:Nat) (b:Nat) (ha:a<M) (hb:b<M) (w0:World):Calls prog 206 #[U a,U b] w0 (jR (.tuple #[U (a*b / M),U (a*b%M)]) w0):=by
 refine Calls.of_ok (n:=69) (F:=(fun _=>True)) func206 rfl rfl rfl (by simp) jT (sS f206 4 [2,3,4,5] [] (fun ρ=>[pt (nb ρ 0),pt (nb ρ 1),pt (nb ρ 2),pt (nb ρ 3)]) (fun ρ=>[(0,(nw ρ 0 (cL (cU a) 64))),(1,(nw ρ 1 (cL (cU b) 64))),(2,(nw ρ 2 (cL (cU 0) 64))),(3,(nw ρ 3 (cL (cU 0) 64)))]) (jE [[],[],[],[]]) (fun ρ1=>sS f206 1 [2,3,4,5,6] [] (fun ρ=>[pt (nb ρ 0)]) (fun ρ=>[(0,(nw ρ 0 (cL #[.int .u64 0,.int .u64 0,.int .u64 0,.int .u64 0,.int .u64 0,.int .u64 0,.int .u64 0,.int .u64 0] 187)))]) (jE [[]]) (fun ρ2=>aB (jJ f206 1 [2,3,4,5,6,14] [vi 0] (aI ?_)))))
 refine oL (σ:=Nat × (Nat→Int)) (fun ⟨i,_⟩=>[(2,(pt (nb ρ1 0))),(3,(pt (nb ρ1 1))),(4,(pt (nb ρ1 2))),(5,(pt (nb ρ1 3))),(6,(pt (nb ρ2 0))),(14,(vn i))]) (fun ⟨_,f⟩=>[(nb ρ1 0,(cL (cU a) 64)),(nb ρ1 1,(cL (cU b) 64)),(nb ρ1 2,(cL (cU 0) 64)),(nb ρ1 3,(cL (cU 0) 64)),(nb ρ2 0,(cL (c8 f) 187))]) (fun ⟨i,_⟩=>4-i)
  (fun ⟨i,f⟩=>(i≤4)∧(MulO a b i f)) (0,(fun _=>0)) (⟨by omega,mulO_zero a b⟩) [] ?_
 rintro ⟨i,f⟩ ⟨hi,hO⟩
 refine jJ f206 1 [2,3,4,5,6,14,15] [.bool (decide (((i:Nat):Int)<4))] (aB (oC (decide (((i:Nat):Int)<4)) (fun hb1=>?_) (fun hb1=>?_)))
 ·rw [hb1]
  have:=yT hb1
  refine aG (aA (aB (aI (jJ f206 2 [2,3,4,5,6,7,14] [vn i,vn i] (jJ f206 1 [2,3,4,5,6,7,8,14] [.int .u64 0] (aB (jJ f206 1 [2,3,4,5,6,7,8,14,17] [vi 0] (aI ?_))))))))
  refine oL (σ:=Nat × (Nat→Int) × Int) (fun ⟨j,_,c⟩=>[(2,(pt (nb ρ1 0))),(3,(pt (nb ρ1 1))),(4,(pt (nb ρ1 2))),(5,(pt (nb ρ1 3))),(6,(pt (nb ρ2 0))),(7,(vn i)),(8,(.int .u64 c)),(14,(vn i)),(17,(vn j))]) (fun ⟨_,u,_⟩=>[(nb ρ1 0,(cL (cU a) 64)),(nb ρ1 1,(cL (cU b) 64)),(nb ρ1 2,(cL (cU 0) 64)),(nb ρ1 3,(cL (cU 0) 64)),(nb ρ2 0,(cL (c8 u) 187))]) (fun ⟨j,_,_⟩=>4-j)
   (fun ⟨j,u,c⟩=>(j≤4)∧(MulI a b i j u c)) (0,f,0) (⟨by omega,mulO_begin hO⟩) [] ?_
  rintro ⟨j,u,c⟩ ⟨hj,hM⟩
  refine jJ f206 1 [2,3,4,5,6,7,8,14,17,18] [.bool (decide (((j:Nat):Int)<4))] (aB (oC (decide (((j:Nat):Int)<4)) (fun hb2=>?_) (fun hb2=>?_)))
  ·rw [hb2]
   have:=yT hb2
   refine aG (aA (aB (aI (jJ f206 2 [2,3,4,5,6,7,8,9,14,17] [vn j,vn j] (sD f206 [0,1,3,0,8,24,63,127,255,255,511,2047] 12 [2,3,4,5,6,7,8,9,10,11,14,17] [] (fun _=>let qa:Value:=.int .u64 (mJ (wd a i) (wd b j));let qb:Value:=.int .u64 (bZ (wd a i) (wd b j));[vn i,jp (nb ρ1 0) i,.int .u64 (wd a i),vn j,jp (nb ρ1 1) j,.int .u64 (wd b j),.tuple #[qa,qb],.tuple #[qa,qb],qa,qb,qa,qb]) (fun _=>[]) (cR [[]]<|cX (jS (fun _=>Instr.indexAt 64 (pt (nb ρ1 0)) (vn i)) (fun _=>(jp (nb ρ1 0) i)) (fun _ w=>aX (n:=((i:Nat):Int)) (i:=i) underlying64 sizeOf62 (⟨rfl,by omega⟩) w))<|cX (kG _ 0 62 (fun _=>nb ρ1 0) (fun _=>i) (fun _=>(cU a)) 64 (0,0) (fun _=>(.int .u64 (wd a i))) (fun _=>by kernel_rfl) isAgg62 (fun _=>lL a i om))<|cR [[]]<|cX (jS (fun _=>Instr.indexAt 64 (pt (nb ρ1 1)) (vn j)) (fun _=>(jp (nb ρ1 1) j)) (fun _ w=>aX (n:=((j:Nat):Int)) (i:=j) underlying64 sizeOf62 (⟨rfl,by omega⟩) w))<|cX (kG _ 1 62 (fun _=>nb ρ1 1) (fun _=>j) (fun _=>(cU b)) 64 (0,0) (fun _=>(.int .u64 (wd b j))) (fun _=>by kernel_rfl) isAgg62 (fun _=>lL b j om))<|cC (fun _ w=>mul64_any (wd a i) (wd b j) (bG a i) (bG b j) w)<|jE [[],[],[],[],[]]) (fun _=>sS f206 12 [2,3,4,5,6,7,8,9,10,12,13,14,17] [] (fun _=>let qa:Value:=.int .u64 (cZ (bZ (wd a i) (wd b j)) (u (i+j)) 0);let qb:Value:=.int .u64 (dJ (bZ (wd a i) (wd b j)) (u (i+j)) 0);[.int .u64 (bZ (wd a i) (wd b j)),vn i,vn j,vn (i+j),jp (nb ρ2 0) (i+j),.int .u64 (u (i+j)),.tuple #[qa,qb],.tuple #[qa,qb],qa,qb,qa,qb]) (fun _=>[]) (cR [[],[],[]]<|jW (fun ρ=>(((i:Nat):Int)+((j:Nat):Int))) (fun _=>(i+j)) (fun _=>(dX i j om))<|cX (jS (fun _=>Instr.indexAt 187 (pt (nb ρ2 0)) (vn (i+j))) (fun _=>(jp (nb ρ2 0) (i+j))) (fun _ w=>aX (n:=((i+j:Nat):Int)) (i:=i+j) underlying187 sizeOf62 (⟨rfl,by omega⟩) w))<|cX (kG _ 4 62 (fun _=>nb ρ2 0) (fun _=>i+j) (fun _=>(c8 u)) 187 (0,0) (fun _=>(.int .u64 (u (i+j)))) (fun _=>by kernel_rfl) isAgg62 (fun _=>c8_get u (i+j) om))<|cX (o_sem _ (fun _=>callFunc 204 #[.int .u64 (bZ (wd a i) (wd b j)),.int .u64 (u (i+j)),.int .u64 0]) (fun _=>(.tuple #[.int .u64 (cZ (bZ (wd a i) (wd b j)) (u (i+j)) 0),.int .u64 (dJ (bZ (wd a i) (wd b j)) (u (i+j)) 0)])) (fun _=>by kernel_rfl) (fun _=>by kernel_rfl) (fun _ w=>(add64 (bZ (wd a i) (wd b j)) (u (i+j)) 0 (yO _ _) (hM.word _) jD) w))<|jE [[],[],[],[],[]]) (fun _=>jJ f206 4 [2,3,4,5,6,7,8,9,10,12,13,14,17] (let qa:Value:=.int .u64 (IntKind.u64.wrap ((mJ (wd a i) (wd b j))+(dJ (bZ (wd a i) (wd b j)) (u (i+j)) 0)));[.int .u64 (mJ (wd a i) (wd b j)),.int .u64 (dJ (bZ (wd a i) (wd b j)) (u (i+j)) 0),qa,qa]) (sS f206 8 [2,3,4,5,6,7,8,9,10,12,13,14,17] [] (fun _=>let qa:Value:=.int .u64 (cZ (cZ (bZ (wd a i) (wd b j)) (u (i+j)) 0) c 0);let qb:Value:=.int .u64 (dJ (cZ (bZ (wd a i) (wd b j)) (u (i+j)) 0) c 0);[.int .u64 (cZ (bZ (wd a i) (wd b j)) (u (i+j)) 0),.int .u64 c,.tuple #[qa,qb],.tuple #[qa,qb],qa,qb,qa,qb]) (fun _=>[]) (cR [[],[]]<|cX (o_sem _ (fun _=>callFunc 204 #[.int .u64 (cZ (bZ (wd a i) (wd b j)) (u (i+j)) 0),.int .u64 c,.int .u64 0]) (fun _=>(.tuple #[.int .u64 (cZ (cZ (bZ (wd a i) (wd b j)) (u (i+j)) 0) c 0),.int .u64 (dJ (cZ (bZ (wd a i) (wd b j)) (u (i+j)) 0) c 0)])) (fun _=>by kernel_rfl) (fun _=>by kernel_rfl) (fun _ w=>(add64 (cZ (bZ (wd a i) (wd b j)) (u (i+j)) 0) c 0 (gQ _ _ _) hM.car jD) w))<|jE [[],[],[],[],[]]) (fun _=>rS f206 10 [2,3,4,5,6,7,8,14,17] [] (fun _=>let qa:Value:=.int .u64 (IntKind.u64.wrap ((IntKind.u64.wrap ((mJ (wd a i) (wd b j))+(dJ (bZ (wd a i) (wd b j)) (u (i+j)) 0)))+(dJ (cZ (bZ (wd a i) (wd b j)) (u (i+j)) 0) c 0)));[vn i,vn j,vn (i+j),.int .u64 (cZ (cZ (bZ (wd a i) (wd b j)) (u (i+j)) 0) c 0),.int .u64 (IntKind.u64.wrap ((mJ (wd a i) (wd b j))+(dJ (bZ (wd a i) (wd b j)) (u (i+j)) 0))),.int .u64 (dJ (cZ (bZ (wd a i) (wd b j)) (u (i+j)) 0) c 0),qa,jp (nb ρ2 0) (i+j),undef,qa]) (fun _=>[(8,(bD 4 (nb ρ2 0) (cL (c8 (qR u (i+j) (cZ (cZ (bZ (wd a i) (wd b j)) (u (i+j)) 0) c 0))) 187)))]) (cR [[],[]]<|jW (fun ρ=>(((i:Nat):Int)+((j:Nat):Int))) (fun _=>(i+j)) (fun _=>(dX i j om))<|cR [[],[],[],[]]<|cX (jS (fun _=>Instr.indexAt 187 (pt (nb ρ2 0)) (vn (i+j))) (fun _=>(jp (nb ρ2 0) (i+j))) (fun _ w=>aX (n:=((i+j:Nat):Int)) (i:=i+j) underlying187 sizeOf62 (⟨rfl,by omega⟩) w))<|cX (qG _ 4 62 (fun _=>nb ρ2 0) (fun _=>i+j) (fun _=>(c8 u)) (fun _=>(c8 (qR u (i+j) (cZ (cZ (bZ (wd a i) (wd b j)) (u (i+j)) 0) c 0)))) 187 (fun _=>(.int .u64 (cZ (cZ (bZ (wd a i) (wd b j)) (u (i+j)) 0) c 0))) (fun _=>by kernel_rfl) sizeOf62 (fun _=>rfl) (fun _=>(show _<8 from om)) (fun _=>c8_set u (i+j) (cZ (cZ (bZ (wd a i) (wd b j)) (u (i+j)) 0) c 0) om))<|jE [[]]) (fun _=>aJ (aA (rS f206 2 [2,3,4,5,6,7,8,14,17] [] (fun _=>[vn (j+1),vn (j+1)]) (fun _=>[]) (jW (fun ρ=>(((j:Nat):Int)+1)) (fun _=>(j+1)) (fun _=>(dX j 1 om))<|jE [[]]) (fun _=>?_)))))))))))))
   exact mN (j+1,qR u (i+j) (cZ (cZ (bZ (wd a i) (wd b j)) (u (i+j)) 0) c 0),IntKind.u64.wrap ((IntKind.u64.wrap ((mJ (wd a i) (wd b j))+(dJ (bZ (wd a i) (wd b j)) (u (i+j)) 0)))+(dJ (cZ (bZ (wd a i) (wd b j)) (u (i+j)) 0) c 0))) (by show 4-(j+1)<4-j;omega) (⟨by omega,mulI_next om om hM (gQ _ _ _) (mul_step (bG a i) (bG b j) (hM.word _) hM.car).2 (mul_step (bG a i) (bG b j) (hM.word _) hM.car).1⟩) []
  rw [hb2]
  refine bF (aN (aN (aT (aA (rS f206 5 [2,3,4,5,6,14] [] (fun _=>[vn i,vn (i+4),.int .u64 c,jp (nb ρ2 0) (i+4),undef]) (fun _=>[(4,(bD 4 (nb ρ2 0) (cL (c8 (qR u (i+4) c)) 187)))]) (cR [[]]<|jW (fun ρ=>(((i:Nat):Int)+4)) (fun _=>(i+4)) (fun _=>(dX i 4 om))<|cR [[]]<|cX (jS (fun _=>Instr.indexAt 187 (pt (nb ρ2 0)) (vn (i+4))) (fun _=>(jp (nb ρ2 0) (i+4))) (fun _ w=>aX (n:=((i+4:Nat):Int)) (i:=i+4) underlying187 sizeOf62 (⟨rfl,by omega⟩) w))<|cX (qG _ 4 62 (fun _=>nb ρ2 0) (fun _=>i+4) (fun _=>(c8 u)) (fun _=>(c8 (qR u (i+4) c))) 187 (fun _=>(.int .u64 c)) (fun _=>by kernel_rfl) sizeOf62 (fun _=>rfl) (fun _=>(show _<8 from om)) (fun _=>c8_set u (i+4) c om))<|cN) (fun _=>aJ (aA (rS f206 2 [2,3,4,5,6,14] [] (fun _=>[vn (i+1),vn (i+1)]) (fun _=>[]) (jW (fun ρ=>(((i:Nat):Int)+1)) (fun _=>(i+1)) (fun _=>(dX i 1 om))<|jE [[]]) (fun _=>?_)))))))))
  exact mN (i+1,qR u (i+4) c) (by show 4-(i+1)<4-i;omega) (⟨by omega,mulI_end om (by have:j=4:=(oA (yF hb2));subst this;exact hM)⟩) []
 rw [hb1]
 refine bF (aN (aN (aT (aA (sD f206 [0,1,3,0,8,24,7,127] 8 [4,5] [0,0,1,1,0] (fun _=>[.slice (some ⟨nb ρ2 0,4,none⟩) 4 4,jp (nb ρ2 0) 4,.agg #[.int .u64 (f 4),.int .u64 (f 5),.int .u64 (f 6),.int .u64 (f 7)],vs (nb ρ2 0) 4 8,pt (nb ρ2 0),.agg #[.int .u64 (f 0),.int .u64 (f 1),.int .u64 (f 2),.int .u64 (f 3)],undef,undef]) (fun _=>[(6,(bD 2 (nb ρ1 2) (cL #[.int .u64 (f 4),.int .u64 (f 5),.int .u64 (f 6),.int .u64 (f 7)] 64))),(7,(bD 3 (nb ρ1 3) (cL #[.int .u64 (f 0),.int .u64 (f 1),.int .u64 (f 2),.int .u64 (f 3)] 64)))]) (jE [[],[],[4],[],[],[4],[2],[3]]) (fun _=>aF ?_))))))
 exact mR (v:=(.tuple #[.agg #[.int .u64 (f 4),.int .u64 (f 5),.int .u64 (f 6),.int .u64 (f 7)],.agg #[.int .u64 (f 0),.int .u64 (f 1),.int .u64 (f 2),.int .u64 (f 3)]])) (ps:=[0,0,0,0,1,1,1,1]) (fun _ hS=>⟨mul_end ha hb (by have:i=4:=(oA (yF hb1));subst this;exact hO),hS.bel⟩)
theorem mul_any (a b:Nat) (w0:World) (ha:a<M) (hb:b<M):Calls prog 206 #[U a,U b] w0 (jR (.tuple #[U (a*b / M),U (a*b%M)]) w0):=mul_w a b ha hb w0
theorem rmul_w (a:Nat) (b:Nat) (ha:a<M) (hb:b<M) (w0:World):Calls prog 190 #[U a,U b] w0 (jR (.tuple #[U (a*b / M),U (a*b%M)]) w0):=by
 refine Calls.of_ok (n:=71) (F:=(fun _=>True)) func190 rfl rfl rfl (by simp) jT (sS f190 4 [2,3,4,5] [] (fun ρ=>[pt (nb ρ 0),pt (nb ρ 1),pt (nb ρ 2),pt (nb ρ 3)]) (fun ρ=>[(0,(nw ρ 0 (cL (cU a) 64))),(1,(nw ρ 1 (cL (cU b) 64))),(2,(nw ρ 2 (cL (cU 0) 64))),(3,(nw ρ 3 (cL (cU 0) 64)))]) (jE [[],[],[],[]]) (fun ρ1=>sS f190 1 [2,3,4,5,6] [] (fun ρ=>[pt (nb ρ 0)]) (fun ρ=>[(0,(nw ρ 0 (cL #[.int .u64 0,.int .u64 0,.int .u64 0,.int .u64 0,.int .u64 0,.int .u64 0,.int .u64 0,.int .u64 0] 187)))]) (jE [[]]) (fun ρ2=>aB (jJ f190 1 [2,3,4,5,6,15] [vi 0] (aI ?_)))))
 refine oL (σ:=Nat × (Nat→Int)) (fun ⟨i,_⟩=>[(2,(pt (nb ρ1 0))),(3,(pt (nb ρ1 1))),(4,(pt (nb ρ1 2))),(5,(pt (nb ρ1 3))),(6,(pt (nb ρ2 0))),(15,(vn i))]) (fun ⟨_,f⟩=>[(nb ρ1 0,(cL (cU a) 64)),(nb ρ1 1,(cL (cU b) 64)),(nb ρ1 2,(cL (cU 0) 64)),(nb ρ1 3,(cL (cU 0) 64)),(nb ρ2 0,(cL (c8 f) 187))]) (fun ⟨i,_⟩=>4-i)
  (fun ⟨i,f⟩=>(i≤4)∧(MulO a b i f)) (0,(fun _=>0)) (⟨by omega,mulO_zero a b⟩) [] ?_
 rintro ⟨i,f⟩ ⟨hi,hO⟩
 refine jJ f190 1 [2,3,4,5,6,15,16] [.bool (decide (((i:Nat):Int)<4))] (aB (oC (decide (((i:Nat):Int)<4)) (fun hb1=>?_) (fun hb1=>?_)))
 ·rw [hb1]
  have:=yT hb1
  refine aG (aA (aB (aI (jJ f190 2 [2,3,4,5,6,7,15] [vn i,vn i] (jJ f190 1 [2,3,4,5,6,7,8,15] [.int .u64 0] (aB (jJ f190 1 [2,3,4,5,6,7,8,15,18] [vi 0] (aI ?_))))))))
  refine oL (σ:=Nat × (Nat→Int) × Int) (fun ⟨j,_,c⟩=>[(2,(pt (nb ρ1 0))),(3,(pt (nb ρ1 1))),(4,(pt (nb ρ1 2))),(5,(pt (nb ρ1 3))),(6,(pt (nb ρ2 0))),(7,(vn i)),(8,(.int .u64 c)),(15,(vn i)),(18,(vn j))]) (fun ⟨_,u,_⟩=>[(nb ρ1 0,(cL (cU a) 64)),(nb ρ1 1,(cL (cU b) 64)),(nb ρ1 2,(cL (cU 0) 64)),(nb ρ1 3,(cL (cU 0) 64)),(nb ρ2 0,(cL (c8 u) 187))]) (fun ⟨j,_,_⟩=>4-j)
   (fun ⟨j,u,c⟩=>(j≤4)∧(MulI a b i j u c)) (0,f,0) (⟨by omega,mulO_begin hO⟩) [] ?_
  rintro ⟨j,u,c⟩ ⟨hj,hM⟩
  refine jJ f190 1 [2,3,4,5,6,7,8,15,18,19] [.bool (decide (((j:Nat):Int)<4))] (aB (oC (decide (((j:Nat):Int)<4)) (fun hb2=>?_) (fun hb2=>?_)))
  ·rw [hb2]
   have:=yT hb2
   refine aG (aA (aB (aI (jJ f190 2 [2,3,4,5,6,7,8,9,15,18] [vn j,vn j] (sD f190 [0,1,3,0,8,24,63,127,255,255,511,2047] 12 [2,3,4,5,6,7,8,9,10,11,15,18] [] (fun _=>let qa:Value:=.int .u64 (mJ (wd a i) (wd b j));let qb:Value:=.int .u64 (bZ (wd a i) (wd b j));[vn i,jp (nb ρ1 0) i,.int .u64 (wd a i),vn j,jp (nb ρ1 1) j,.int .u64 (wd b j),.tuple #[qa,qb],.tuple #[qa,qb],qa,qb,qa,qb]) (fun _=>[]) (cR [[]]<|cX (jS (fun _=>Instr.indexAt 64 (pt (nb ρ1 0)) (vn i)) (fun _=>(jp (nb ρ1 0) i)) (fun _ w=>aX (n:=((i:Nat):Int)) (i:=i) underlying64 sizeOf62 (⟨rfl,by omega⟩) w))<|cX (kG _ 0 62 (fun _=>nb ρ1 0) (fun _=>i) (fun _=>(cU a)) 64 (0,0) (fun _=>(.int .u64 (wd a i))) (fun _=>by kernel_rfl) isAgg62 (fun _=>lL a i om))<|cR [[]]<|cX (jS (fun _=>Instr.indexAt 64 (pt (nb ρ1 1)) (vn j)) (fun _=>(jp (nb ρ1 1) j)) (fun _ w=>aX (n:=((j:Nat):Int)) (i:=j) underlying64 sizeOf62 (⟨rfl,by omega⟩) w))<|cX (kG _ 1 62 (fun _=>nb ρ1 1) (fun _=>j) (fun _=>(cU b)) 64 (0,0) (fun _=>(.int .u64 (wd b j))) (fun _=>by kernel_rfl) isAgg62 (fun _=>lL b j om))<|cC (fun _ w=>mul64_any (wd a i) (wd b j) (bG a i) (bG b j) w)<|jE [[],[],[],[],[]]) (fun _=>sS f190 12 [2,3,4,5,6,7,8,9,10,12,13,15,18] [] (fun _=>let qa:Value:=.int .u64 (cZ (u (i+j)) (bZ (wd a i) (wd b j)) 0);let qb:Value:=.int .u64 (dJ (u (i+j)) (bZ (wd a i) (wd b j)) 0);[vn i,vn j,vn (i+j),jp (nb ρ2 0) (i+j),.int .u64 (u (i+j)),.int .u64 (bZ (wd a i) (wd b j)),.tuple #[qa,qb],.tuple #[qa,qb],qa,qb,qa,qb]) (fun _=>[]) (cR [[],[]]<|jW (fun ρ=>(((i:Nat):Int)+((j:Nat):Int))) (fun _=>(i+j)) (fun _=>(dX i j om))<|cX (jS (fun _=>Instr.indexAt 187 (pt (nb ρ2 0)) (vn (i+j))) (fun _=>(jp (nb ρ2 0) (i+j))) (fun _ w=>aX (n:=((i+j:Nat):Int)) (i:=i+j) underlying187 sizeOf62 (⟨rfl,by omega⟩) w))<|cX (kG _ 4 62 (fun _=>nb ρ2 0) (fun _=>i+j) (fun _=>(c8 u)) 187 (0,0) (fun _=>(.int .u64 (u (i+j)))) (fun _=>by kernel_rfl) isAgg62 (fun _=>c8_get u (i+j) om))<|cR [[]]<|cX (o_sem _ (fun _=>callFunc 204 #[.int .u64 (u (i+j)),.int .u64 (bZ (wd a i) (wd b j)),.int .u64 0]) (fun _=>(.tuple #[.int .u64 (cZ (u (i+j)) (bZ (wd a i) (wd b j)) 0),.int .u64 (dJ (u (i+j)) (bZ (wd a i) (wd b j)) 0)])) (fun _=>by kernel_rfl) (fun _=>by kernel_rfl) (fun _ w=>(add64 (u (i+j)) (bZ (wd a i) (wd b j)) 0 (hM.word _) (yO _ _) jD) w))<|jE [[],[],[],[],[]]) (fun _=>sS f190 8 [2,3,4,5,6,7,8,9,10,12,13,14,15,18] [] (fun _=>let qa:Value:=.int .u64 (cZ (cZ (u (i+j)) (bZ (wd a i) (wd b j)) 0) c 0);let qb:Value:=.int .u64 (dJ (cZ (u (i+j)) (bZ (wd a i) (wd b j)) 0) c 0);[.int .u64 (cZ (u (i+j)) (bZ (wd a i) (wd b j)) 0),.int .u64 c,.tuple #[qa,qb],.tuple #[qa,qb],qa,qb,qa,qb]) (fun _=>[]) (cR [[],[]]<|cX (o_sem _ (fun _=>callFunc 204 #[.int .u64 (cZ (u (i+j)) (bZ (wd a i) (wd b j)) 0),.int .u64 c,.int .u64 0]) (fun _=>(.tuple #[.int .u64 (cZ (cZ (u (i+j)) (bZ (wd a i) (wd b j)) 0) c 0),.int .u64 (dJ (cZ (u (i+j)) (bZ (wd a i) (wd b j)) 0) c 0)])) (fun _=>by kernel_rfl) (fun _=>by kernel_rfl) (fun _ w=>(add64 (cZ (u (i+j)) (bZ (wd a i) (wd b j)) 0) c 0 (gQ _ _ _) hM.car jD) w))<|jE [[],[],[],[],[]]) (fun _=>rS f190 12 [2,3,4,5,6,7,8,15,18] [] (fun _=>let qa:Value:=.int .u64 (IntKind.u64.wrap ((IntKind.u64.wrap ((mJ (wd a i) (wd b j))+(dJ (u (i+j)) (bZ (wd a i) (wd b j)) 0)))+(dJ (cZ (u (i+j)) (bZ (wd a i) (wd b j)) 0) c 0)));[vn i,vn j,vn (i+j),.int .u64 (cZ (cZ (u (i+j)) (bZ (wd a i) (wd b j)) 0) c 0),.int .u64 (mJ (wd a i) (wd b j)),.int .u64 (dJ (u (i+j)) (bZ (wd a i) (wd b j)) 0),.int .u64 (IntKind.u64.wrap ((mJ (wd a i) (wd b j))+(dJ (u (i+j)) (bZ (wd a i) (wd b j)) 0))),.int .u64 (dJ (cZ (u (i+j)) (bZ (wd a i) (wd b j)) 0) c 0),qa,jp (nb ρ2 0) (i+j),undef,qa]) (fun _=>[(10,(bD 4 (nb ρ2 0) (cL (c8 (qR u (i+j) (cZ (cZ (u (i+j)) (bZ (wd a i) (wd b j)) 0) c 0))) 187)))]) (cR [[],[]]<|jW (fun ρ=>(((i:Nat):Int)+((j:Nat):Int))) (fun _=>(i+j)) (fun _=>(dX i j om))<|cR [[],[],[],[],[],[]]<|cX (jS (fun _=>Instr.indexAt 187 (pt (nb ρ2 0)) (vn (i+j))) (fun _=>(jp (nb ρ2 0) (i+j))) (fun _ w=>aX (n:=((i+j:Nat):Int)) (i:=i+j) underlying187 sizeOf62 (⟨rfl,by omega⟩) w))<|cX (qG _ 4 62 (fun _=>nb ρ2 0) (fun _=>i+j) (fun _=>(c8 u)) (fun _=>(c8 (qR u (i+j) (cZ (cZ (u (i+j)) (bZ (wd a i) (wd b j)) 0) c 0)))) 187 (fun _=>(.int .u64 (cZ (cZ (u (i+j)) (bZ (wd a i) (wd b j)) 0) c 0))) (fun _=>by kernel_rfl) sizeOf62 (fun _=>rfl) (fun _=>(show _<8 from om)) (fun _=>c8_set u (i+j) (cZ (cZ (u (i+j)) (bZ (wd a i) (wd b j)) 0) c 0) om))<|jE [[]]) (fun _=>aJ (aA (rS f190 2 [2,3,4,5,6,7,8,15,18] [] (fun _=>[vn (j+1),vn (j+1)]) (fun _=>[]) (jW (fun ρ=>(((j:Nat):Int)+1)) (fun _=>(j+1)) (fun _=>(dX j 1 om))<|jE [[]]) (fun _=>?_))))))))))))
   exact mN (j+1,qR u (i+j) (cZ (cZ (u (i+j)) (bZ (wd a i) (wd b j)) 0) c 0),IntKind.u64.wrap ((IntKind.u64.wrap ((mJ (wd a i) (wd b j))+(dJ (u (i+j)) (bZ (wd a i) (wd b j)) 0)))+(dJ (cZ (u (i+j)) (bZ (wd a i) (wd b j)) 0) c 0))) (by show 4-(j+1)<4-j;omega) (⟨by omega,mulI_next om om hM (gQ _ _ _) (rmul_step (bG a i) (bG b j) (hM.word _) hM.car).2 (rmul_step (bG a i) (bG b j) (hM.word _) hM.car).1⟩) []
  rw [hb2]
  refine bF (aN (aN (aT (aA (rS f190 5 [2,3,4,5,6,15] [] (fun _=>[vn i,vn (i+4),.int .u64 c,jp (nb ρ2 0) (i+4),undef]) (fun _=>[(4,(bD 4 (nb ρ2 0) (cL (c8 (qR u (i+4) c)) 187)))]) (cR [[]]<|jW (fun ρ=>(((i:Nat):Int)+4)) (fun _=>(i+4)) (fun _=>(dX i 4 om))<|cR [[]]<|cX (jS (fun _=>Instr.indexAt 187 (pt (nb ρ2 0)) (vn (i+4))) (fun _=>(jp (nb ρ2 0) (i+4))) (fun _ w=>aX (n:=((i+4:Nat):Int)) (i:=i+4) underlying187 sizeOf62 (⟨rfl,by omega⟩) w))<|cX (qG _ 4 62 (fun _=>nb ρ2 0) (fun _=>i+4) (fun _=>(c8 u)) (fun _=>(c8 (qR u (i+4) c))) 187 (fun _=>(.int .u64 c)) (fun _=>by kernel_rfl) sizeOf62 (fun _=>rfl) (fun _=>(show _<8 from om)) (fun _=>c8_set u (i+4) c om))<|cN) (fun _=>aJ (aA (rS f190 2 [2,3,4,5,6,15] [] (fun _=>[vn (i+1),vn (i+1)]) (fun _=>[]) (jW (fun ρ=>(((i:Nat):Int)+1)) (fun _=>(i+1)) (fun _=>(dX i 1 om))<|jE [[]]) (fun _=>?_)))))))))
  exact mN (i+1,qR u (i+4) c) (by show 4-(i+1)<4-i;omega) (⟨by omega,mulI_end om (by have:j=4:=(oA (yF hb2));subst this;exact hM)⟩) []
 rw [hb1]
 refine bF (aN (aN (aT (aA (sD f190 [0,0,3] 3 [4,5,6] [0,0,1,1,1] (fun _=>[vs (nb ρ1 3) 4 4,vs (nb ρ2 0) 4 8,vi 4]) (fun _=>[(2,(bD 3 (nb ρ1 3) (cL #[.int .u64 (f 0),.int .u64 (f 1),.int .u64 (f 2),.int .u64 (f 3)] 64)))]) (cR [[],[]]<|cX (o_run _ [3,4] [1,1,1,1,0,0,0,0] (fun _ _=>[nb ρ2 0,nb ρ2 0,nb ρ2 0,nb ρ2 0,nb ρ1 3,nb ρ1 3,nb ρ1 3,nb ρ1 3]) (fun _ _=>by kernel_rfl))<|cN) (fun _=>sD f190 [0,0,3] 3 [4,5] [1,1,0] (fun _=>[vs (nb ρ1 2) 4 4,.slice (some ⟨nb ρ2 0,4,none⟩) 4 4,vi 4]) (fun _=>[(2,(bD 0 (nb ρ1 2) (cL #[.int .u64 (f 4),.int .u64 (f 5),.int .u64 (f 6),.int .u64 (f 7)] 64)))]) (cR [[],[]]<|cX (o_run _ [0,2] [1,1,1,1,0,0,0,0] (fun _ _=>[nb ρ2 0,nb ρ2 0,nb ρ2 0,nb ρ2 0,nb ρ1 2,nb ρ1 2,nb ρ1 2,nb ρ1 2]) (fun _ _=>by kernel_rfl))<|cN) (fun _=>sS f190 4 [4,5] [] (fun _=>[.agg #[.int .u64 (f 4),.int .u64 (f 5),.int .u64 (f 6),.int .u64 (f 7)],.agg #[.int .u64 (f 0),.int .u64 (f 1),.int .u64 (f 2),.int .u64 (f 3)],undef,undef]) (fun _=>[(2,(bD 0 (nb ρ1 2) (cL #[.int .u64 (f 4),.int .u64 (f 5),.int .u64 (f 6),.int .u64 (f 7)] 64))),(3,(bD 1 (nb ρ1 3) (cL #[.int .u64 (f 0),.int .u64 (f 1),.int .u64 (f 2),.int .u64 (f 3)] 64)))]) (jE [[0],[1],[0],[1]]) (fun _=>aF ?_))))))))
 exact mR (v:=(.tuple #[.agg #[.int .u64 (f 4),.int .u64 (f 5),.int .u64 (f 6),.int .u64 (f 7)],.agg #[.int .u64 (f 0),.int .u64 (f 1),.int .u64 (f 2),.int .u64 (f 3)]])) (ps:=[0,0,0,0,1,1,1,1]) (fun _ hS=>⟨mul_end ha hb (by have:i=4:=(oA (yF hb1));subst this;exact hO),hS.bel⟩)
theorem rmul_any (a b:Nat) (w0:World) (ha:a<M) (hb:b<M):Calls prog 190 #[U a,U b] w0 (jR (.tuple #[U (a*b / M),U (a*b%M)]) w0):=rmul_w a b ha hb w0
theorem addmod_w (a:Nat) (b:Nat) (m:Nat) (ha:a<M) (hb:b<M) (hm:m<M) (w0:World):Calls prog 200 #[U a,U b,U m] w0 (jR (U (bC a b m)) w0):=by
 refine Calls.of_ok (n:=37) (F:=(fun _=>True)) func200 rfl rfl rfl (by simp) jT (sS f200 4 [3,4,5,6] [] (fun ρ=>[pt (nb ρ 0),pt (nb ρ 1),pt (nb ρ 2),pt (nb ρ 3)]) (fun ρ=>[(0,(nw ρ 0 (cL (cU a) 64))),(1,(nw ρ 1 (cL (cU b) 64))),(2,(nw ρ 2 (cL (cU m) 64))),(3,(nw ρ 3 (cL (cU 0) 64)))]) (jE [[],[],[],[]]) (fun ρ1=>aB (sS f200 3 [3,4,5,6,11] [] (fun _=>[U m,U 0,.bool (decide (m=0))]) (fun _=>[]) (cR [[2],[]]<|cB (a:=fun ρ=>(U m)) (b:=fun ρ=>(U 0)) (v:=fun ρ=>(.bool (decide (m=0)))) .eql 64 (fun _ _=>eqlU m 0 hm (by decide +kernel) _)<|cN) (fun _=>oC (decide (m=0)) (fun hb1=>?_) (fun hb1=>?_)))))
 ·rw [hb1]
  refine sS f200 2 [3,4,5,6] [] (fun _=>[U 0,undef]) (fun _=>[(1,(bD 3 (nb ρ1 3) (cL (cU 0) 64)))]) (jE [[],[3]]) (fun _=>aF (aC ?_))
  exact mR (v:=(U 0)) (ps:=[3,3,3,3]) (fun _ hS=>⟨congrArg (fun x=>Ending.returned (U x)) (addm_0 hb1),hS.bel⟩)
 rw [hb1]
 refine aG (aA (sD f200 [0,0,3,0,0,31,63,127,255,255,0,1535,4095] 13 [5,6,7,8] [0,0,1,1,1] (fun ρ=>let qa:Value:=.bool (decide (M≤(aQ a m)+(aQ b m)));[U a,U m,U (aQ a m),U b,U m,U (aQ b m),.tuple #[U (((aQ a m)+(aQ b m))%M),qa],.tuple #[U (((aQ a m)+(aQ b m))%M),qa],U (((aQ a m)+(aQ b m))%M),qa,pt (nb ρ 10),undef,qa]) (fun ρ=>[(10,(nw ρ 10 (cL (cU 0) 64))),(11,(bD 84 (nb ρ 10) (cL (cU (((aQ a m)+(aQ b m))%M)) 64)))]) (cR [[0],[2]]<|cC (fun _ w=>yE a m w ha hm)<|cR [[1],[2]]<|cC (fun _ w=>yE b m w hb hm)<|cC (fun _ w=>add_any (aQ a m) (aQ b m) w (pR ha) (pR hb))<|jE [[],[],[],[],[84],[]]) (fun ρ4=>aB ?_)))
 rcases Bool.eq_false_or_eq_true (decide (M≤(aQ a m)+(aQ b m))) with hb2 | hb2
 ·rw [hb2]
  refine jJ f200 7 [5,6,7,29] [vT,vT,undef,undef,undef,undef,vT] (oY (rS f200 7 [6,7] [0,1,1] (fun _=>let qa:Value:=.bool (decide ((((aQ a m)+(aQ b m))%M)<m));[U (((aQ a m)+(aQ b m))%M),U m,.tuple #[U (((((aQ a m)+(aQ b m))%M)+M-m)%M),qa],.tuple #[U (((((aQ a m)+(aQ b m))%M)+M-m)%M),qa],U (((((aQ a m)+(aQ b m))%M)+M-m)%M),qa,undef]) (fun _=>[(6,(bD 2 (nb ρ4 10) (cL (cU (((((aQ a m)+(aQ b m))%M)+M-m)%M)) 64)))]) (cR [[2],[0]]<|cC (f:=212) (args:=fun ρ=> #[U (((aQ a m)+(aQ b m))%M),U m]) (v:=fun ρ=>(.tuple #[U (((((aQ a m)+(aQ b m))%M)+M-m)%M),.bool (decide ((((aQ a m)+(aQ b m))%M)<m))])) (fun _ w=>(fun w=>sub_any (((aQ a m)+(aQ b m))%M) m w (rC _) hm) w)<|jE [[],[],[],[2]]) (fun _=>aA (sS f200 2 [6] [1,0] (fun _=>[U (((((aQ a m)+(aQ b m))%M)+M-m)%M),undef]) (fun _=>[(1,(bD 0 (nb ρ1 3) (cL (cU (((((aQ a m)+(aQ b m))%M)+M-m)%M)) 64)))]) (jE [[1],[0]]) (fun _=>aF ?_)))))
  exact mR (v:=(U (((((aQ a m)+(aQ b m))%M)+M-m)%M))) (fun _ hS=>⟨congrArg (fun x=>Ending.returned (U x)) (addm_2 hm hb1 hb2),hS.bel⟩)
 rw [hb2]
 refine sS f200 7 [5,6,7,29] [] (fun _=>let qa:Value:=.bool (decide (0≤(fJ (((aQ a m)+(aQ b m))%M) m)));[vF,vF,U (((aQ a m)+(aQ b m))%M),U m,vi (fJ (((aQ a m)+(aQ b m))%M) m),qa,qa]) (fun _=>[]) (cR [[],[],[2],[0]]<|cC (f:=151) (args:=fun ρ=> #[U (((aQ a m)+(aQ b m))%M),U m]) (v:=fun ρ=>(vi (fJ (((aQ a m)+(aQ b m))%M) m))) (fun _ w=>(fun w=>uN (((aQ a m)+(aQ b m))%M) m w (rC _) hm) w)<|jE [[],[]]) (fun _=>oC (decide (0≤(fJ (((aQ a m)+(aQ b m))%M) m))) (fun hb3=>?_) (fun hb3=>?_))
 ·rw [hb3]
  refine rS f200 7 [6,7] [0,1,1] (fun _=>let qa:Value:=.bool (decide ((((aQ a m)+(aQ b m))%M)<m));[U (((aQ a m)+(aQ b m))%M),U m,.tuple #[U (((((aQ a m)+(aQ b m))%M)+M-m)%M),qa],.tuple #[U (((((aQ a m)+(aQ b m))%M)+M-m)%M),qa],U (((((aQ a m)+(aQ b m))%M)+M-m)%M),qa,undef]) (fun _=>[(6,(bD 2 (nb ρ4 10) (cL (cU (((((aQ a m)+(aQ b m))%M)+M-m)%M)) 64)))]) (cR [[2],[0]]<|cC (f:=212) (args:=fun ρ=> #[U (((aQ a m)+(aQ b m))%M),U m]) (v:=fun ρ=>(.tuple #[U (((((aQ a m)+(aQ b m))%M)+M-m)%M),.bool (decide ((((aQ a m)+(aQ b m))%M)<m))])) (fun _ w=>(fun w=>sub_any (((aQ a m)+(aQ b m))%M) m w (rC _) hm) w)<|jE [[],[],[],[2]]) (fun _=>aA (sS f200 2 [6] [1,0] (fun _=>[U (((((aQ a m)+(aQ b m))%M)+M-m)%M),undef]) (fun _=>[(1,(bD 0 (nb ρ1 3) (cL (cU (((((aQ a m)+(aQ b m))%M)+M-m)%M)) 64)))]) (jE [[1],[0]]) (fun _=>aF ?_)))
  exact mR (v:=(U (((((aQ a m)+(aQ b m))%M)+M-m)%M))) (fun _ hS=>⟨congrArg (fun x=>Ending.returned (U x)) (addm_3t hm hb1 hb2 hb3),hS.bel⟩)
 rw [hb3]
 refine aG (aA (sS f200 2 [6] [0,1,0] (fun _=>[U (((aQ a m)+(aQ b m))%M),undef]) (fun _=>[(1,(bD 1 (nb ρ1 3) (cL (cU (((aQ a m)+(aQ b m))%M)) 64)))]) (jE [[2],[1]]) (fun _=>aF ?_)))
 exact mR (v:=(U (((aQ a m)+(aQ b m))%M))) (fun _ hS=>⟨congrArg (fun x=>Ending.returned (U x)) (addm_3f hm hb1 hb2 hb3),hS.bel⟩)
theorem addmod_any (a b m:Nat) (w0:World) (ha:a<M) (hb:b<M) (hm:m<M):Calls prog 200 #[U a,U b,U m] w0 (jR (U (bC a b m)) w0):=addmod_w a b m ha hb hm w0
theorem mulmod_w (a:Nat) (b:Nat) (m:Nat) (ha:a<M) (hb:b<M) (hm:m<M) (w0:World):Calls prog 194 #[U a,U b,U m] w0 (jR (U (bV a b m)) w0):=by
 refine Calls.of_ok (n:=33) (F:=(fun _=>True)) func194 rfl rfl rfl (by simp) jT (sS f194 4 [3,4,5,6] [] (fun ρ=>[pt (nb ρ 0),pt (nb ρ 1),pt (nb ρ 2),pt (nb ρ 3)]) (fun ρ=>[(0,(nw ρ 0 (cL (cU a) 64))),(1,(nw ρ 1 (cL (cU b) 64))),(2,(nw ρ 2 (cL (cU m) 64))),(3,(nw ρ 3 (cL (cU 0) 64)))]) (jE [[],[],[],[]]) (fun ρ1=>aB (sS f194 3 [3,4,5,6,14] [] (fun _=>[U m,U 0,.bool (decide (m=0))]) (fun _=>[]) (cR [[2],[]]<|cB (a:=fun ρ=>(U m)) (b:=fun ρ=>(U 0)) (v:=fun ρ=>(.bool (decide (m=0)))) .eql 64 (fun _ _=>eqlU m 0 hm (by decide +kernel) _)<|cN) (fun _=>oC (decide (m=0)) (fun hb1=>?_) (fun hb1=>?_)))))
 ·rw [hb1]
  refine sS f194 2 [3,4,5,6] [] (fun _=>[U 0,undef]) (fun _=>[(1,(bD 3 (nb ρ1 3) (cL (cU 0) 64)))]) (jE [[],[3]]) (fun _=>aF (aC ?_))
  exact mR (v:=(U 0)) (ps:=[3,3,3,3]) (fun _ hS=>⟨congrArg (fun x=>Ending.returned (U x)) (mulm_0 hb1),hS.bel⟩)
 rw [hb1]
 refine aG (aA (sS f194 10 [5,6,7,8] [0,0,1,1,1,1] (fun ρ=>[U a,U b,.tuple #[U ((a*b) / M),U ((a*b)%M)],.tuple #[U ((a*b) / M),U ((a*b)%M)],U ((a*b) / M),U ((a*b)%M),pt (nb ρ 6),pt (nb ρ 7),undef,undef]) (fun ρ=>[(6,(nw ρ 6 (cL (cU 0) 64))),(7,(nw ρ 7 (cL (cU 0) 64))),(8,(bD 52 (nb ρ 6) (cL (cU ((a*b) / M)) 64))),(9,(bD 60 (nb ρ 7) (cL (cU ((a*b)%M)) 64)))]) (cR [[0],[1]]<|cC (fun _ w=>mul_any a b w ha hb)<|jE [[],[],[],[],[],[52],[60]]) (fun _=>sD f194 [0,0,3,0,0,31,63,127,127,127,0,0,3327,7679,16383] 15 [6,10] [0,1,0,0,0,1] (fun ρ=>let qa:Value:=.bool (decide ((aQ ((a*b) / M) m)<m));[U ((a*b) / M),U m,U (aQ ((a*b) / M) m),U ((a*b)%M),U m,.tuple #[U (qQ (aQ ((a*b) / M) m) ((a*b)%M) m),U (iV (aQ ((a*b) / M) m) ((a*b)%M) m),qa],.tuple #[U (qQ (aQ ((a*b) / M) m) ((a*b)%M) m),U (iV (aQ ((a*b) / M) m) ((a*b)%M) m),qa],U (qQ (aQ ((a*b) / M) m) ((a*b)%M) m),U (iV (aQ ((a*b) / M) m) ((a*b)%M) m),qa,pt (nb ρ 10),pt (nb ρ 11),undef,undef,qa]) (fun ρ=>[(10,(nw ρ 10 (cL (cU 0) 64))),(11,(nw ρ 11 (cL (cU 0) 64))),(12,(bD 84 (nb ρ 10) (cL (cU (qQ (aQ ((a*b) / M) m) ((a*b)%M) m)) 64))),(13,(bD 92 (nb ρ 11) (cL (cU (iV (aQ ((a*b) / M) m) ((a*b)%M) m)) 64)))]) (cR [[2],[0]]<|cC (fun _ w=>yE ((a*b) / M) m w (mulhi_lt ha hb) hm)<|cR [[3],[0]]<|cC (f:=207) (args:=fun ρ=> #[U (aQ ((a*b) / M) m),U ((a*b)%M),U m]) (v:=fun ρ=>(.tuple #[U (qQ (aQ ((a*b) / M) m) ((a*b)%M) m),U (iV (aQ ((a*b) / M) m) ((a*b)%M) m),.bool (decide ((aQ ((a*b) / M) m)<m))])) (fun _ w=>(fun w=>div_any (aQ ((a*b) / M) m) ((a*b)%M) m w (pR (mulhi_lt ha hb)) (rC _) hm) w)<|jE [[],[],[],[],[],[],[84],[92],[]]) (fun _=>sS f194 2 [6] [1,0] (fun _=>[U (iV (aQ ((a*b) / M) m) ((a*b)%M) m),undef]) (fun _=>[(1,(bD 0 (nb ρ1 3) (cL (cU (iV (aQ ((a*b) / M) m) ((a*b)%M) m)) 64)))]) (jE [[1],[0]]) (fun _=>aF ?_)))))
 exact mR (v:=(U (iV (aQ ((a*b) / M) m) ((a*b)%M) m))) (fun _ hS=>⟨congrArg (fun x=>Ending.returned (U x)) (mulm_1 hb1),hS.bel⟩)
theorem mulmod_any (a b m:Nat) (w0:World) (ha:a<M) (hb:b<M) (hm:m<M):Calls prog 194 #[U a,U b,U m] w0 (jR (U (bV a b m)) w0):=mulmod_w a b m ha hb hm w0
theorem raddmod_w (a:Nat) (b:Nat) (m:Nat) (ha:a<M) (hb:b<M) (hm:m<M) (w0:World):Calls prog 168 #[U a,U b,U m] w0 (jR (U (bC a b m)) w0):=by
 refine Calls.of_ok (n:=38) (F:=(fun _=>True)) func168 rfl rfl rfl (by simp) jT (sS f168 4 [3,4,5,6] [] (fun ρ=>[pt (nb ρ 0),pt (nb ρ 1),pt (nb ρ 2),pt (nb ρ 3)]) (fun ρ=>[(0,(nw ρ 0 (cL (cU a) 64))),(1,(nw ρ 1 (cL (cU b) 64))),(2,(nw ρ 2 (cL (cU m) 64))),(3,(nw ρ 3 (cL (cU 0) 64)))]) (jE [[],[],[],[]]) (fun ρ1=>aB (sS f168 2 [3,4,5,6,10] [] (fun _=>[U m,.bool (decide (m=0))]) (fun _=>[]) (cR [[2]]<|cC (fun _ w=>iI m w hm)<|cN) (fun _=>oC (decide (m=0)) (fun hb1=>?_) (fun hb1=>?_)))))
 ·rw [hb1]
  refine sS f168 2 [3,4,5,6] [] (fun _=>[U m,undef]) (fun _=>[(1,(bD 3 (nb ρ1 3) (cL (cU m) 64)))]) (jE [[2],[3]]) (fun _=>aF (aC ?_))
  exact mR (v:=(U m)) (ps:=[3,3,3,3]) (fun _ hS=>⟨congrArg (fun x=>Ending.returned (U x)) (addm_0' hb1),hS.bel⟩)
 rw [hb1]
 refine aG (aA (sD f168 [0,0,3,0,0,31,63,127] 8 [3,4,5,6] [] (fun _=>[U a,U m,U (aQ a m),U b,U m,U (aQ b m),undef,undef]) (fun _=>[(6,(bD 0 (nb ρ1 0) (cL (cU (aQ a m)) 64))),(7,(bD 1 (nb ρ1 1) (cL (cU (aQ b m)) 64)))]) (cR [[0],[2]]<|cC (fun _ w=>oM a m w ha hm)<|cR [[1],[2]]<|cC (fun _ w=>oM b m w hb hm)<|jE [[0],[1]]) (fun _=>sS f168 9 [5,6,7,8] [0,0,1,1,1] (fun ρ=>let qa:Value:=.bool (decide (M≤(aQ a m)+(aQ b m)));[U (aQ a m),U (aQ b m),.tuple #[U (((aQ a m)+(aQ b m))%M),qa],.tuple #[U (((aQ a m)+(aQ b m))%M),qa],U (((aQ a m)+(aQ b m))%M),qa,pt (nb ρ 6),undef,qa]) (fun ρ=>[(6,(nw ρ 6 (cL (cU 0) 64))),(7,(bD 52 (nb ρ 6) (cL (cU (((aQ a m)+(aQ b m))%M)) 64)))]) (cR [[0],[1]]<|cC (fun _ w=>radd_any (aQ a m) (aQ b m) w (pR ha) (pR hb))<|jE [[],[],[],[],[52],[]]) (fun ρ5=>aB ?_))))
 rcases Bool.eq_false_or_eq_true (decide (M≤(aQ a m)+(aQ b m))) with hb2 | hb2
 ·rw [hb2]
  refine jJ f168 7 [5,6,7,30] [vT,vT,undef,undef,undef,undef,vT] (oY (rS f168 7 [6,7] [0,1,1] (fun _=>let qa:Value:=.bool (decide ((((aQ a m)+(aQ b m))%M)<m));[U (((aQ a m)+(aQ b m))%M),U m,.tuple #[U (((((aQ a m)+(aQ b m))%M)+M-m)%M),qa],.tuple #[U (((((aQ a m)+(aQ b m))%M)+M-m)%M),qa],U (((((aQ a m)+(aQ b m))%M)+M-m)%M),qa,undef]) (fun _=>[(6,(bD 2 (nb ρ5 6) (cL (cU (((((aQ a m)+(aQ b m))%M)+M-m)%M)) 64)))]) (cR [[2],[0]]<|cC (f:=184) (args:=fun ρ=> #[U (((aQ a m)+(aQ b m))%M),U m]) (v:=fun ρ=>(.tuple #[U (((((aQ a m)+(aQ b m))%M)+M-m)%M),.bool (decide ((((aQ a m)+(aQ b m))%M)<m))])) (fun _ w=>(fun w=>zQ (((aQ a m)+(aQ b m))%M) m w (rC _) hm) w)<|jE [[],[],[],[2]]) (fun _=>aA (sS f168 2 [6] [1,0] (fun _=>[U (((((aQ a m)+(aQ b m))%M)+M-m)%M),undef]) (fun _=>[(1,(bD 0 (nb ρ1 3) (cL (cU (((((aQ a m)+(aQ b m))%M)+M-m)%M)) 64)))]) (jE [[1],[0]]) (fun _=>aF ?_)))))
  exact mR (v:=(U (((((aQ a m)+(aQ b m))%M)+M-m)%M))) (fun _ hS=>⟨congrArg (fun x=>Ending.returned (U x)) (addm_2 hm hb1 hb2),hS.bel⟩)
 rw [hb2]
 refine sS f168 7 [5,6,7,30] [] (fun _=>let qa:Value:=.bool (decide (0≤(fJ (((aQ a m)+(aQ b m))%M) m)));[vF,vF,U (((aQ a m)+(aQ b m))%M),U m,vi (fJ (((aQ a m)+(aQ b m))%M) m),qa,qa]) (fun _=>[]) (cR [[],[],[2],[0]]<|cC (f:=148) (args:=fun ρ=> #[U (((aQ a m)+(aQ b m))%M),U m]) (v:=fun ρ=>(vi (fJ (((aQ a m)+(aQ b m))%M) m))) (fun _ w=>(fun w=>xAI (((aQ a m)+(aQ b m))%M) m w (rC _) hm) w)<|jE [[],[]]) (fun _=>oC (decide (0≤(fJ (((aQ a m)+(aQ b m))%M) m))) (fun hb3=>?_) (fun hb3=>?_))
 ·rw [hb3]
  refine rS f168 7 [6,7] [0,1,1] (fun _=>let qa:Value:=.bool (decide ((((aQ a m)+(aQ b m))%M)<m));[U (((aQ a m)+(aQ b m))%M),U m,.tuple #[U (((((aQ a m)+(aQ b m))%M)+M-m)%M),qa],.tuple #[U (((((aQ a m)+(aQ b m))%M)+M-m)%M),qa],U (((((aQ a m)+(aQ b m))%M)+M-m)%M),qa,undef]) (fun _=>[(6,(bD 2 (nb ρ5 6) (cL (cU (((((aQ a m)+(aQ b m))%M)+M-m)%M)) 64)))]) (cR [[2],[0]]<|cC (f:=184) (args:=fun ρ=> #[U (((aQ a m)+(aQ b m))%M),U m]) (v:=fun ρ=>(.tuple #[U (((((aQ a m)+(aQ b m))%M)+M-m)%M),.bool (decide ((((aQ a m)+(aQ b m))%M)<m))])) (fun _ w=>(fun w=>zQ (((aQ a m)+(aQ b m))%M) m w (rC _) hm) w)<|jE [[],[],[],[2]]) (fun _=>aA (sS f168 2 [6] [1,0] (fun _=>[U (((((aQ a m)+(aQ b m))%M)+M-m)%M),undef]) (fun _=>[(1,(bD 0 (nb ρ1 3) (cL (cU (((((aQ a m)+(aQ b m))%M)+M-m)%M)) 64)))]) (jE [[1],[0]]) (fun _=>aF ?_)))
  exact mR (v:=(U (((((aQ a m)+(aQ b m))%M)+M-m)%M))) (fun _ hS=>⟨congrArg (fun x=>Ending.returned (U x)) (addm_3t hm hb1 hb2 hb3),hS.bel⟩)
 rw [hb3]
 refine aG (aA (sS f168 2 [6] [0,1,0] (fun _=>[U (((aQ a m)+(aQ b m))%M),undef]) (fun _=>[(1,(bD 1 (nb ρ1 3) (cL (cU (((aQ a m)+(aQ b m))%M)) 64)))]) (jE [[2],[1]]) (fun _=>aF ?_)))
 exact mR (v:=(U (((aQ a m)+(aQ b m))%M))) (fun _ hS=>⟨congrArg (fun x=>Ending.returned (U x)) (addm_3f hm hb1 hb2 hb3),hS.bel⟩)
theorem raddmod_any (a b m:Nat) (w0:World) (ha:a<M) (hb:b<M) (hm:m<M):Calls prog 168 #[U a,U b,U m] w0 (jR (U (bC a b m)) w0):=raddmod_w a b m ha hb hm w0
theorem rmulmod_w (a:Nat) (b:Nat) (m:Nat) (ha:a<M) (hb:b<M) (hm:m<M) (w0:World):Calls prog 170 #[U a,U b,U m] w0 (jR (U (bV a b m)) w0):=by
 refine Calls.of_ok (n:=34) (F:=(fun _=>True)) func170 rfl rfl rfl (by simp) jT (sS f170 4 [3,4,5,6] [] (fun ρ=>[pt (nb ρ 0),pt (nb ρ 1),pt (nb ρ 2),pt (nb ρ 3)]) (fun ρ=>[(0,(nw ρ 0 (cL (cU a) 64))),(1,(nw ρ 1 (cL (cU b) 64))),(2,(nw ρ 2 (cL (cU m) 64))),(3,(nw ρ 3 (cL (cU 0) 64)))]) (jE [[],[],[],[]]) (fun ρ1=>aB (sS f170 2 [3,4,5,6,13] [] (fun _=>[U m,.bool (decide (m=0))]) (fun _=>[]) (cR [[2]]<|cC (fun _ w=>iI m w hm)<|cN) (fun _=>oC (decide (m=0)) (fun hb1=>?_) (fun hb1=>?_)))))
 ·rw [hb1]
  refine sS f170 2 [3,4,5,6] [] (fun _=>[U m,undef]) (fun _=>[(1,(bD 3 (nb ρ1 3) (cL (cU m) 64)))]) (jE [[2],[3]]) (fun _=>aF (aC ?_))
  exact mR (v:=(U m)) (ps:=[3,3,3,3]) (fun _ hS=>⟨congrArg (fun x=>Ending.returned (U x)) (mulm_0' hb1),hS.bel⟩)
 rw [hb1]
 refine aG (aA (sD f170 [0,0,3,0,0,31,63,127,255,255,0,0,3583,8191] 14 [5,6,7,8] [0,0,1,1,1,1] (fun ρ=>[U a,U m,U (aQ a m),U b,U m,U (aQ b m),.tuple #[U (((aQ a m)*(aQ b m)) / M),U (((aQ a m)*(aQ b m))%M)],.tuple #[U (((aQ a m)*(aQ b m)) / M),U (((aQ a m)*(aQ b m))%M)],U (((aQ a m)*(aQ b m)) / M),U (((aQ a m)*(aQ b m))%M),pt (nb ρ 10),pt (nb ρ 11),undef,undef]) (fun ρ=>[(10,(nw ρ 10 (cL (cU 0) 64))),(11,(nw ρ 11 (cL (cU 0) 64))),(12,(bD 84 (nb ρ 10) (cL (cU (((aQ a m)*(aQ b m)) / M)) 64))),(13,(bD 92 (nb ρ 11) (cL (cU (((aQ a m)*(aQ b m))%M)) 64)))]) (cR [[0],[2]]<|cC (fun _ w=>oM a m w ha hm)<|cR [[1],[2]]<|cC (fun _ w=>oM b m w hb hm)<|cC (fun _ w=>rmul_any (aQ a m) (aQ b m) w (pR ha) (pR hb))<|jE [[],[],[],[],[],[84],[92]]) (fun _=>sS f170 13 [6,10] [0,1,0,0,0,1] (fun ρ=>let qa:Value:=.bool (decide ((((aQ a m)*(aQ b m)) / M)<m));[U (((aQ a m)*(aQ b m)) / M),U (((aQ a m)*(aQ b m))%M),U m,.tuple #[U (qQ (((aQ a m)*(aQ b m)) / M) (((aQ a m)*(aQ b m))%M) m),U (iV (((aQ a m)*(aQ b m)) / M) (((aQ a m)*(aQ b m))%M) m),qa],.tuple #[U (qQ (((aQ a m)*(aQ b m)) / M) (((aQ a m)*(aQ b m))%M) m),U (iV (((aQ a m)*(aQ b m)) / M) (((aQ a m)*(aQ b m))%M) m),qa],U (qQ (((aQ a m)*(aQ b m)) / M) (((aQ a m)*(aQ b m))%M) m),U (iV (((aQ a m)*(aQ b m)) / M) (((aQ a m)*(aQ b m))%M) m),qa,pt (nb ρ 8),pt (nb ρ 9),undef,undef,qa]) (fun ρ=>[(8,(nw ρ 8 (cL (cU 0) 64))),(9,(nw ρ 9 (cL (cU 0) 64))),(10,(bD 68 (nb ρ 8) (cL (cU (qQ (((aQ a m)*(aQ b m)) / M) (((aQ a m)*(aQ b m))%M) m)) 64))),(11,(bD 76 (nb ρ 9) (cL (cU (iV (((aQ a m)*(aQ b m)) / M) (((aQ a m)*(aQ b m))%M) m)) 64)))]) (cR [[2],[3],[0]]<|cC (f:=191) (args:=fun ρ=> #[U (((aQ a m)*(aQ b m)) / M),U (((aQ a m)*(aQ b m))%M),U m]) (v:=fun ρ=>(.tuple #[U (qQ (((aQ a m)*(aQ b m)) / M) (((aQ a m)*(aQ b m))%M) m),U (iV (((aQ a m)*(aQ b m)) / M) (((aQ a m)*(aQ b m))%M) m),.bool (decide ((((aQ a m)*(aQ b m)) / M)<m))])) (fun _ w=>(fun w=>rdiv_any (((aQ a m)*(aQ b m)) / M) (((aQ a m)*(aQ b m))%M) m w (mulhi_lt (pR ha) (pR hb)) (rC _) hm) w)<|jE [[],[],[],[],[],[],[68],[76],[]]) (fun _=>sS f170 2 [6] [1,0] (fun _=>[U (iV (((aQ a m)*(aQ b m)) / M) (((aQ a m)*(aQ b m))%M) m),undef]) (fun _=>[(1,(bD 0 (nb ρ1 3) (cL (cU (iV (((aQ a m)*(aQ b m)) / M) (((aQ a m)*(aQ b m))%M) m)) 64)))]) (jE [[1],[0]]) (fun _=>aF ?_)))))
 exact mR (v:=(U (iV (((aQ a m)*(aQ b m)) / M) (((aQ a m)*(aQ b m))%M) m))) (fun _ hS=>⟨congrArg (fun x=>Ending.returned (U x)) (mulm_2 hm hb1),hS.bel⟩)
theorem vU (a b m:Nat) (w0:World) (ha:a<M) (hb:b<M) (hm:m<M):Calls prog 170 #[U a,U b,U m] w0 (jR (U (bV a b m)) w0):=rmulmod_w a b m ha hb hm w0
theorem rshr_neg (a:Nat) (n:Int) (hn:n≤0) (w0:World):Calls prog 171 #[U a,vi n] w0 (jR (U a) w0):=by
 refine Calls.of_ok (n:=34) (F:=(fun _=>True)) func171 rfl rfl rfl (by simp) jT ?_
 have hk0:decide (n≤0)=true:=decide_eq_true hn
 refine sS f171 2 [1,2,4] [] (fun ρ=>[pt (nb ρ 0),pt (nb ρ 1)]) (fun ρ=>[(0,(nw ρ 0 (cL (cU a) 64))),(1,(nw ρ 1 (cL (cU 0) 64)))]) (jE [[],[]]) (fun ρ1=>aB (sS f171 2 [1,2,4,8] [] (fun _=>[vi n,vT]) (fun _=>[]) (cR [[]]<|cA (fun _=>vT) (fun _=>congrArg Value.bool hk0)<|cN) (fun _=>oY (sS f171 2 [1,2,4] [] (fun _=>[U a,undef]) (fun _=>[(1,(bD 1 (nb ρ1 1) (cL (cU a) 64)))]) (jE [[0],[1]]) (fun _=>aF (aC ?_))))))
 exact mR (v:=(U a)) (ps:=[1,1,1,1]) (fun _ hS=>⟨rfl,hS.bel⟩)
theorem rshr_big (a:Nat) (n:Int) (hn:256≤n) (w0:World):Calls prog 171 #[U a,vi n] w0 (jR (U 0) w0):=by
 refine Calls.of_ok (n:=34) (F:=(fun _=>True)) func171 rfl rfl rfl (by simp) jT ?_
 have hk0:decide (n≤0)=false:=decide_eq_false om
 have hk1:decide (256≤n)=true:=decide_eq_true hn
 refine sS f171 2 [1,2,4] [] (fun ρ=>[pt (nb ρ 0),pt (nb ρ 1)]) (fun ρ=>[(0,(nw ρ 0 (cL (cU a) 64))),(1,(nw ρ 1 (cL (cU 0) 64)))]) (jE [[],[]]) (fun ρ1=>aB (sS f171 2 [1,2,4,8] [] (fun _=>[vi n,vF]) (fun _=>[]) (cR [[]]<|cA (fun _=>vF) (fun _=>congrArg Value.bool hk0)<|cN) (fun _=>oN (aG (aA (aB (sS f171 2 [1,2,4,11] [] (fun _=>[vi n,vT]) (fun _=>[]) (cR [[]]<|cA (fun _=>vT) (fun _=>congrArg Value.bool hk1)<|cN) (fun _=>oY (sS f171 2 [1,2,4] [] (fun _=>[U 0,undef]) (fun _=>[(1,(bD 1 (nb ρ1 1) (cL (cU 0) 64)))]) (jE [[],[1]]) (fun _=>aF (aC ?_)))))))))))
 exact mR (v:=(U 0)) (ps:=[1,1,1,1]) (fun _ hS=>⟨rfl,hS.bel⟩)
theorem run_shl1 {P:Program} {t:TypeId} (k:Nat) (h:k<64) (w:World):(binOp .shl t (.int .u64 1) (.int .i64 (k:Int))).run P w=.ok (.int .u64 (2^k)) w:=by
 rw [run_shl]
 unfold shlW
 rw [Nat.min_eq_left om,Int.one_mul,x8 k h]
theorem rshr_mid (a:Nat) (m:Nat) (ha:a<M) (_h0:0<m) (_hm:m<256) (w0:World):Calls prog 171 #[U a,vn m] w0 (jR (U (a / 2^m)) w0):=by
 refine Calls.of_ok (n:=34) (F:=(fun _=>True)) func171 rfl rfl rfl (by simp) jT ?_
 have hk0:decide (((m:Nat):Int)≤0)=false:=decide_eq_false om
 have hk1:decide (256≤((m:Nat):Int))=false:=decide_eq_false om
 refine sS f171 2 [1,2,4] [] (fun ρ=>[pt (nb ρ 0),pt (nb ρ 1)]) (fun ρ=>[(0,(nw ρ 0 (cL (cU a) 64))),(1,(nw ρ 1 (cL (cU 0) 64)))]) (jE [[],[]]) (fun ρ1=>aB (sS f171 2 [1,2,4,8] [] (fun _=>[vn m,vF]) (fun _=>[]) (cR [[]]<|cA (fun _=>vF) (fun _=>congrArg Value.bool hk0)<|cN) (fun _=>oN (aG (aA (aB (sS f171 2 [1,2,4,11] [] (fun _=>[vn m,vF]) (fun _=>[]) (cR [[]]<|cA (fun _=>vF) (fun _=>congrArg Value.bool hk1)<|cN) (fun _=>oN (aG (aA (sS f171 1 [1,2,4,5] [] (fun ρ=>[pt (nb ρ 0)]) (fun ρ=>[(0,(nw ρ 0 (cL (cU 0) 64)))]) (jE [[]]) (fun ρ4=>aB (jJ f171 1 [1,2,4,5,6] [vi 0] (aI ?_))))))))))))))
 refine oL (σ:=Nat × Nat) (fun ⟨i,_⟩=>[(1,(vn m)),(2,(pt (nb ρ1 0))),(4,(pt (nb ρ1 1))),(5,(pt (nb ρ4 0))),(6,(vn i))]) (fun ⟨_,b⟩=>[(nb ρ1 0,(cL (cU a) 64)),(nb ρ1 1,(cL (cU 0) 64)),(nb ρ4 0,(cL (cU b) 64))]) (fun ⟨i,_⟩=>256-i)
  (fun ⟨i,b⟩=>(i+m≤256)∧(b=a / 2^m%2^i)) (0,0) (⟨by omega,by simp [Nat.mod_one]⟩) [] ?_
 rintro ⟨i,b⟩ ⟨hi,hb⟩
 refine aB (sS f171 4 [1,2,4,5,6,16] [] (fun _=>[vn i,vn m,vn (i+m),.bool (decide (((i+m:Nat):Int)<256))]) (fun _=>[]) (cR [[],[]]<|jW (fun ρ=>(((i:Nat):Int)+((m:Nat):Int))) (fun _=>(i+m)) (fun _=>(dX i m om))<|jE [[]]) (fun _=>oC (decide (((i+m:Nat):Int)<256)) (fun hb1=>?_) (fun hb1=>?_)))
 ·rw [hb1]
  have:=yT hb1
  refine aG (aA (aB (aI (sS f171 5 [1,2,4,5,6,23] [] (fun _=>[U a,vn i,vn m,vn (i+m),.bool (nJ a (i+m))]) (fun _=>[]) (cR [[0],[],[]]<|jW (fun ρ=>(((i:Nat):Int)+((m:Nat):Int))) (fun _=>(i+m)) (fun _=>(dX i m om))<|cC (fun _ w=>rW a (i+m) w om)<|cN) (fun _=>oC (nJ a (i+m)) (fun hb2=>?_) (fun hb2=>?_))))))
  ·rw [hb2]
   refine rD f171 [0,1,3,7,0,16,48,127,255,511] 10 [1,2,4,5,6] [] (fun _=>[vn i,vn (i / 64),jp (nb ρ4 0) (i / 64),.int .u64 (wd b (i / 64)),vn i,vn (i%64),.int .u64 ((2:Int)^(i%64)),.int .u64 (bits .or .u64 (wd b (i / 64)) ((2:Int)^(i%64))),jp (nb ρ4 0) (i / 64),undef]) (fun _=>[(9,(bD 2 (nb ρ4 0) (cL (cU (b+2^(64*(i / 64)+i%64))) 64)))]) (cR [[]]<|cB (a:=fun ρ=>(vn i)) (b:=fun ρ=>(vi 64)) (v:=fun ρ=>(vn (i / 64))) .quo 3 (fun _ w=>run_quo_nat i 64 (i / 64) (by decide) om rfl w)<|cX (jS (fun _=>Instr.indexAt 64 (pt (nb ρ4 0)) (vn (i / 64))) (fun _=>(jp (nb ρ4 0) (i / 64))) (fun _ w=>aX (n:=((i / 64:Nat):Int)) (i:=i / 64) underlying64 sizeOf62 (⟨rfl,by omega⟩) w))<|cX (kG _ 2 62 (fun _=>nb ρ4 0) (fun _=>i / 64) (fun _=>(cU b)) 64 (0,0) (fun _=>(.int .u64 (wd b (i / 64)))) (fun _=>by kernel_rfl) isAgg62 (fun _=>lL b (i / 64) om))<|cR [[]]<|cB (a:=fun ρ=>(vn i)) (b:=fun ρ=>(vi 64)) (v:=fun ρ=>(vn (i%64))) .rem 3 (fun _ w=>run_rem_nat i 64 (i%64) (by decide) rfl w)<|cB (a:=fun ρ=>(.int .u64 1)) (b:=fun ρ=>(vn (i%64))) (v:=fun ρ=>(.int .u64 ((2:Int)^(i%64)))) .shl 62 (fun _ w=>run_shl1 (i%64) om w)<|cR [[]]<|cX (jS (fun _=>Instr.indexAt 64 (pt (nb ρ4 0)) (vn (i / 64))) (fun _=>(jp (nb ρ4 0) (i / 64))) (fun _ w=>aX (n:=((i / 64:Nat):Int)) (i:=i / 64) underlying64 sizeOf62 (⟨rfl,by omega⟩) w))<|cX (qG _ 2 62 (fun _=>nb ρ4 0) (fun _=>i / 64) (fun _=>(cU b)) (fun _=>(cU (b+2^(64*(i / 64)+i%64)))) 64 (fun _=>(.int .u64 (bits .or .u64 (wd b (i / 64)) ((2:Int)^(i%64))))) (fun _=>by kernel_rfl) sizeOf62 (fun _=>rfl) (fun _=>(show _<4 from by omega)) (fun _=>setlow_row b (i / 64) (i%64) om om (by rw [hb,show 64*(i / 64)+i%64=i by omega];exact Nat.mod_lt _ (Nat.pow_pos (by decide)))))<|cN) (fun _=>aJ (aA (rS f171 3 [1,2,4,5,6] [] (fun _=>[vn i,vn (i+1),vn (i+1)]) (fun _=>[]) (cR [[]]<|jW (fun ρ=>(((i:Nat):Int)+1)) (fun _=>(i+1)) (fun _=>(dX i 1 om))<|jE [[]]) (fun _=>?_))))
   exact mN (i+1,b+2^(64*(i / 64)+i%64)) (by show 256-(i+1)<256-i;omega) (⟨by omega,by rw [low_next,hb];have h2:=hb2;unfold nJ at h2;rw [shr_bit] at h2;rw [if_pos (yT h2),show 64*(i / 64)+i%64=i by omega]⟩) []
  rw [hb2]
  refine aG (aJ (aA (rS f171 3 [1,2,4,5,6] [] (fun _=>[vn i,vn (i+1),vn (i+1)]) (fun _=>[]) (cR [[]]<|jW (fun ρ=>(((i:Nat):Int)+1)) (fun _=>(i+1)) (fun _=>(dX i 1 om))<|jE [[]]) (fun _=>?_))))
  exact mN (i+1,b) (by show 256-(i+1)<256-i;omega) (⟨by omega,by rw [low_next,hb];have h2:=hb2;unfold nJ at h2;rw [shr_bit] at h2;rw [if_neg (yF h2),Nat.add_zero]⟩) []
 rw [hb1]
 refine bF (aN (aN (aT (aA (sS f171 2 [4] [0,1,0] (fun _=>[U b,undef]) (fun _=>[(1,(bD 1 (nb ρ1 1) (cL (cU b) 64)))]) (jE [[2],[1]]) (fun _=>aF ?_))))))
 exact mR (v:=(U b)) (fun _ hS=>⟨congrArg (fun x=>Ending.returned (U x)) (by rw [hb];exact shr_all ha (oA (yF hb1))),hS.bel⟩)
theorem rshr_any (a:Nat) (n:Int) (w0:World) (ha:a<M):Calls prog 171 #[U a,.int .i64 n] w0 (jR (U (shrZ a n)) w0):=by
 unfold shrZ
 by_cases h0:n<0
 ·rw [if_pos h0];exact rshr_neg a n om w0
 ·rw [if_neg h0]
  by_cases h1:256≤n
  ·rw [shrN_big ha om];exact rshr_big a n h1 w0
  ·obtain ⟨k, rfl⟩ := Int.eq_ofNat_of_zero_le (by omega : 0 ≤ n)
   rw [Int.toNat_natCast]
   by_cases hk:k=0
   ·subst hk;rw [Nat.pow_zero,Nat.div_one];exact rshr_neg a _ om w0
   ·exact rshr_mid a k ha om om w0
theorem rexpmod_w (a:Nat) (e:Nat) (m:Nat) (ha:a<M) (he:e<M) (hm:m<M) (w0:World):Calls prog 172 #[U a,U e,U m] w0 (jR (U (bK a e m)) w0):=by
 refine Calls.of_ok (n:=34) (F:=(fun _=>True)) func172 rfl rfl rfl (by simp) jT (sS f172 4 [3,4,5,6] [] (fun ρ=>[pt (nb ρ 0),pt (nb ρ 1),pt (nb ρ 2),pt (nb ρ 3)]) (fun ρ=>[(0,(nw ρ 0 (cL (cU a) 64))),(1,(nw ρ 1 (cL (cU e) 64))),(2,(nw ρ 2 (cL (cU m) 64))),(3,(nw ρ 3 (cL (cU 0) 64)))]) (jE [[],[],[],[]]) (fun ρ1=>aB (sS f172 2 [3,4,5,6,10] [] (fun _=>[U m,.bool (decide (m=0))]) (fun _=>[]) (cR [[2]]<|cC (fun _ w=>iI m w hm)<|cN) (fun _=>oC (decide (m=0)) (fun hb1=>?_) (fun hb1=>?_)))))
 ·rw [hb1]
  refine sS f172 2 [3,4,5,6] [] (fun _=>[U m,undef]) (fun _=>[(1,(bD 3 (nb ρ1 3) (cL (cU m) 64)))]) (jE [[2],[3]]) (fun _=>aF (aC ?_))
  exact mR (v:=(U m)) (ps:=[3,3,3,3]) (fun _ hS=>⟨congrArg (fun x=>Ending.returned (U x)) (expm_0' hb1),hS.bel⟩)
 rw [hb1]
 refine aG (aA (sD f172 [0,0,3,0,15] 5 [3,4,5,6,7] [] (fun ρ=>[U 1,U m,U (aQ 1 m),pt (nb ρ 3),undef]) (fun ρ=>[(3,(nw ρ 3 (cL (cU 0) 64))),(4,(bD 28 (nb ρ 3) (cL (cU (aQ 1 m)) 64)))]) (cC (fun _ w=>iE 1 w (by decide))<|cR [[2]]<|cC (fun _ w=>oM 1 m w (by decide +kernel) hm)<|jE [[],[28]]) (fun ρ4=>aB (sS f172 4 [3,4,5,6,7,8] [] (fun _=>let qa:=vi (((dG e:Nat):Int)-1);[U e,vn (dG e),qa,qa]) (fun _=>[]) (cR [[1]]<|cC (fun _ w=>rlen_any e w he)<|jU (fun ρ=>(((dG e:Nat):Int)-1)) (fun _=>(((dG e:Nat):Int)-1)) (fun _=>(wrap_pred (oA (iJ e he))))<|jE [[]]) (fun _=>aI ?_)))))
 refine oL (σ:=Nat × Nat) (fun ⟨k,_⟩=>[(3,(pt (nb ρ1 0))),(4,(pt (nb ρ1 1))),(5,(pt (nb ρ1 2))),(6,(pt (nb ρ1 3))),(7,(pt (nb ρ4 3))),(8,(vi (((k:Nat):Int)-1)))]) (fun ⟨_,p⟩=>[(nb ρ1 0,(cL (cU a) 64)),(nb ρ1 1,(cL (cU e) 64)),(nb ρ1 2,(cL (cU m) 64)),(nb ρ1 3,(cL (cU 0) 64)),(nb ρ4 3,(cL (cU p) 64))]) (fun ⟨k,_⟩=>k)
  (fun ⟨k,p⟩=>(k≤256)∧(p=a^(e / 2^k)%m)) (dG e,aQ 1 m) (⟨iJ e he,exp_start hb1⟩) [] ?_
 rintro ⟨k,p⟩ ⟨hk,hp⟩
 have hpM:p<M:=exp_lt hm hb1 hp
 refine aB (jJ f172 2 [3,4,5,6,7,8,19] [vi (((k:Nat):Int)-1),.bool (decide (0≤(((k:Nat):Int)-1)))] (oC (decide (0≤(((k:Nat):Int)-1))) (fun hb2=>?_) (fun hb2=>?_)))
 ·rw [hb2]
  refine aG (aA (aB (aI (sS f172 5 [3,4,5,6,7,8] [] (fun _=>[U p,U p,U m,U (bV p p m),undef]) (fun _=>[(4,(bD 4 (nb ρ4 3) (cL (cU (bV p p m)) 64)))]) (cR [[4],[4],[2]]<|cC (fun _ w=>vU p p m w hpM hpM hm)<|jE [[4]]) (fun _=>sS f172 3 [3,4,5,6,7,8,28] [] (fun _=>[U e,vi (((k:Nat):Int)-1),.bool (nJ e (k-1))]) (fun _=>[]) (cR [[1],[]]<|cC (f:=192) (args:=fun ρ=> #[U e,vi (((k:Nat):Int)-1)]) (v:=fun ρ=>(.bool (nJ e (k-1)))) (fun _ w=>(fun w=>rbit_at e (k-1) _ (by have h1:=yT hb2;omega) w (by have h1:=yT hb2;omega)) w)<|cN) (fun _=>oC (nJ e (k-1)) (fun hb3=>?_) (fun hb3=>?_)))))))
  ·rw [hb3]
   refine rS f172 5 [3,4,5,6,7,8] [] (fun _=>[U (bV p p m),U a,U m,U (bV (bV p p m) a m),undef]) (fun _=>[(4,(bD 4 (nb ρ4 3) (cL (cU (bV (bV p p m) a m)) 64)))]) (cR [[4],[0],[2]]<|cC (f:=170) (args:=fun ρ=> #[U (bV p p m),U a,U m]) (v:=fun ρ=>(U (bV (bV p p m) a m))) (fun _ w=>(fun w=>vU (bV p p m) a m w (wE _ _ hm) ha hm) w)<|jE [[4]]) (fun _=>aJ (aA (rS f172 3 [3,4,5,6,7,8] [] (fun _=>let qa:=vi (((k-1:Nat):Int)-1);[vi (((k:Nat):Int)-1),qa,qa]) (fun _=>[]) (cR [[]]<|jU (fun ρ=>((((k:Nat):Int)-1)-1)) (fun _=>(((k-1:Nat):Int)-1)) (fun _=>(wrap_down (by have h1:=yT hb2;omega) om))<|jE [[]]) (fun _=>?_))))
   exact mN (k-1,bV (bV p p m) a m) (by show k-1<k;have h1:=yT hb2;omega) (⟨by omega,by rw [exp_step1 hp (jH (a:=0) hb1).2.1,half_odd (by have h1:=yT hb2;omega) hb3]⟩) []
  rw [hb3]
  refine aG (aJ (aA (rS f172 3 [3,4,5,6,7,8] [] (fun _=>let qa:=vi (((k-1:Nat):Int)-1);[vi (((k:Nat):Int)-1),qa,qa]) (fun _=>[]) (cR [[]]<|jU (fun ρ=>((((k:Nat):Int)-1)-1)) (fun _=>(((k-1:Nat):Int)-1)) (fun _=>(wrap_down (by have h1:=yT hb2;omega) om))<|jE [[]]) (fun _=>?_))))
  exact mN (k-1,bV p p m) (by show k-1<k;have h1:=yT hb2;omega) (⟨by omega,by rw [exp_step hp (jH (a:=0) hb1).2.1,half_even (by have h1:=yT hb2;omega) hb3]⟩) []
 rw [hb2]
 refine bF (aN (aN (aT (aA (sS f172 2 [6] [0,0,0,1,0] (fun _=>[U p,undef]) (fun _=>[(1,(bD 3 (nb ρ1 3) (cL (cU p) 64)))]) (jE [[4],[3]]) (fun _=>aF ?_))))))
 exact mR (v:=(U p)) (fun _ hS=>⟨congrArg (fun x=>Ending.returned (U x)) (exp_end (k:=k) hb1 (by have h1:=yF hb2;omega) hp),hS.bel⟩)
theorem rexpmod_any (a e m:Nat) (w0:World) (ha:a<M) (he:e<M) (hm:m<M):Calls prog 172 #[U a,U e,U m] w0 (jR (U (bK a e m)) w0):=rexpmod_w a e m ha he hm w0
theorem qX {A k:Nat} {C:Array Value} {v:Int} (hC:C.size=32) (hk:k<32) (hj:∀ j,j<k→C[j]? = some (.int .u8 (nR A j))) (hv:v=nR A k) :
 (C.setIfInBounds k (.int .u8 v)).size=32∧∀ j,j<k+1→(C.setIfInBounds k (.int .u8 v))[j]? = some (.int .u8 (nR A j)):=by
 refine ⟨by simpa using hC,fun j h=>?_⟩
 by_cases e:j=k
 ·subst e;rw [hv];simp [hC,hk]
 ·rw [Array.getElem?_setIfInBounds_ne (fun x=>e x.symm)];exact hj j (by omega)
theorem nV {C:Array Value} (h:C.size=32):(prog.info? 57).map (·.size)=some C.size:=by rw [h];kernel_rfl
set_option maxHeartbeats 1000000 in
set_option maxRecDepth 100000 in
theorem pW (A : Nat) (w : World) :
 Calls prog 136 #[U A] w fun e w'=>e=.returned (.agg (hB A))∧Below w.heap.size w w':=by
 go_enter func136,Tryz.ntmps136
 go_wp2
 obtain ⟨Z,hZ⟩:∃ Z:Array Value,Z= #[.int .u8 0,.int .u8 0,.int .u8 0,.int .u8 0,.int .u8 0,.int .u8 0,.int .u8 0,.int .u8 0,.int .u8 0,.int .u8 0,.int .u8 0,.int .u8 0,.int .u8 0,.int .u8 0,.int .u8 0,.int .u8 0,.int .u8 0,.int .u8 0,.int .u8 0,.int .u8 0,.int .u8 0,.int .u8 0,.int .u8 0,.int .u8 0,.int .u8 0,.int .u8 0,.int .u8 0,.int .u8 0,.int .u8 0,.int .u8 0,.int .u8 0,.int .u8 0]:=⟨_,rfl⟩
 rw [← hZ]
 have hz:Z.size=32:=by rw [hZ];rfl
 clear hZ
 go_loopw [5] (fun i wr=>∃ (k:Nat) (C:Array Value),k≤32∧i=.int .i64 k∧C.size=32∧(∀ j,j<k→C[j]? = some (.int .u8 (nR A j)))∧wr=((w.alloc (.cells #[.int .u64 (wd A 0),.int .u64 (wd A 1),.int .u64 (wd A 2),.int .u64 (wd A 3)] 64)).alloc (.cells Z 57)).alloc (.cells C 57)) (fun i _=>32-(intOf i).toNat)
 case atStart=>exact ⟨0,Z,by omega,rfl,hz,fun j hj=>by omega,rfl⟩
 case round =>
  obtain ⟨k,C,hk,rfl,hC,hj,rfl⟩:=hrel
  have HC:=Lib.hid hC;have HJ:=Lib.hid hj;have HZ:=Lib.hid hz
  clear hC hj hz
  by_cases hlt:k<32
  ·have hC2 : k < C.size := by have := HC.out; omega
   rcases (by omega:(k:Int) / 8=0∨(k:Int) / 8=1∨(k:Int) / 8=2∨(k:Int) / 8=3) with h8 | h8 | h8 | h8
   all_goals
    go_wp2
    go_roundw
    case rel =>
     first | (obtain ⟨g1,g2⟩:=qX HC.out hlt HJ.out (byt_wd A 3 k hlt (by omega));exact ⟨k+1,_,by omega,by go_num,g1,g2,rfl⟩) | (obtain ⟨g1,g2⟩:=qX HC.out hlt HJ.out (byt_wd A 2 k hlt (by omega));exact ⟨k+1,_,by omega,by go_num,g1,g2,rfl⟩) | (obtain ⟨g1,g2⟩:=qX HC.out hlt HJ.out (byt_wd A 1 k hlt (by omega));exact ⟨k+1,_,by omega,by go_num,g1,g2,rfl⟩) | (obtain ⟨g1,g2⟩:=qX HC.out hlt HJ.out (byt_wd A 0 k hlt (by omega));exact ⟨k+1,_,by omega,by go_num,g1,g2,rfl⟩)
    case measure=>simp [intOf];omega
  ·go_wp2_with (first | (refine wl_load (w.heap.size + 1 + 1) 57 C _ rfl (hp_3_2 _ _ _ _) underlying57 rfl (nV HC.out) ?_) | (refine wl_store (w.heap.size + 1) 57 Z C rfl rfl (hp_3_1 _ _ _ _) (nV HC.out) (HZ.out.trans HC.out.symm) (by rw [hB_ext HC.out (fun j h => HJ.out j (by omega))]; exact hB_one A) ?_))
   rw [sr_3_1]
   refine bodyPost_ret (results_cell_row rfl _ _ (w.heap.size+1) 57 C (0,0) _ rfl (hp_3_1 _ _ _ _) underlying57 rfl (nV HC.out)) rfl ?_
   refine ⟨by rw [hB_ext HC.out (fun j h=>HJ.out j (by omega))],?_⟩
   (exact bt)
theorem run_index_hash (A k:Nat) (hk:k<32) (w:World):(Instr.index 57 (.agg (hB A)) (.int .i64 k)).run prog w=.ok (.int .u8 (nR A k)) w:=by
 have h:=hB_get A k hk
 have h0:(0:Int)≤(k:Int)∧(k:Int)<32:=by omega
 simp [Instr.index,go_sem,part,h,h0,hk]
set_option maxHeartbeats 1000000 in
set_option maxRecDepth 100000 in
theorem frombytes_any (A : Nat) (w : World) :
 Calls prog 201 #[.agg (hB A)] w fun e w'=>e=.returned (U A)∧Below w.heap.size w w':=by
 go_enter func201,Tryz.ntmps201
 go_wp2_with (refine wl_load (w.heap.size) 57 (hB A) _ rfl (hp_3_0 _ _ _ _) underlying57 rfl (nV (yV A)) ?_)
 go_loopw [8] (fun i wr=>∃ (k:Nat),k≤32∧i=.int .i64 k∧wr=((w.alloc (.cells (hB A) 57)).alloc (.cells #[.int .u64 0,.int .u64 0,.int .u64 0,.int .u64 0] 64)).alloc (.cells #[.int .u64 (pre A 0 k),.int .u64 (pre A 1 k),.int .u64 (pre A 2 k),.int .u64 (pre A 3 k)] 64)) (fun i _=>32-(intOf i).toNat)
 case atStart=>exact ⟨0,by omega,rfl,by rw [xI A 0 0 (by omega),xI A 1 0 (by omega),xI A 2 0 (by omega),xI A 3 0 (by omega)]⟩
 case round =>
  obtain ⟨k,hk,rfl,rfl⟩:=hrel
  by_cases hlt:k<32
  ·have hidx := run_index_hash A k hlt
   rcases (by omega:(k:Int) / 8=0∨(k:Int) / 8=1∨(k:Int) / 8=2∨(k:Int) / 8=3) with h8 | h8 | h8 | h8
   all_goals
    go_wp2
    go_roundw
    case rel =>
     refine ⟨k+1,by omega,by go_num,?_⟩
     first
      | rw [yZ A 3 k hlt (by omega),iP A 0 k (by omega) (by omega),iP A 1 k (by omega) (by omega),iP A 2 k (by omega) (by omega)]
      | rw [yZ A 2 k hlt (by omega),iP A 0 k (by omega) (by omega),iP A 1 k (by omega) (by omega),iP A 3 k (by omega) (by omega)]
      | rw [yZ A 1 k hlt (by omega),iP A 0 k (by omega) (by omega),iP A 2 k (by omega) (by omega),iP A 3 k (by omega) (by omega)]
      | rw [yZ A 0 k hlt (by omega),iP A 1 k (by omega) (by omega),iP A 2 k (by omega) (by omega),iP A 3 k (by omega) (by omega)]
    case measure=>simp [intOf];omega
  ·obtain rfl : k = 32 := by omega
   rw [pre_end A 0 (by omega),pre_end A 1 (by omega),pre_end A 2 (by omega),pre_end A 3 (by omega)]
   go_wp2
   go_returns
   refine ⟨rfl,?_⟩
   (exact bt)
theorem setCell_drewN (w:World) (n:Nat) (a:Addr) (v:Value):(w.drewN n).setCell a v=(w.setCell a v).drewN n:=rfl
set_option maxHeartbeats 1000000 in
set_option maxRecDepth 100000 in
theorem rfrombytes_any (A : Nat) (w : World) :
 Calls prog 169 #[.agg (hB A)] w fun e w'=>e=.returned (U A)∧Below w.heap.size w w':=by
 go_enter func169,Tryz.ntmps169
 go_wp2
 go_loopw [6] (fun i wr=>∃ (k n:Nat),k≤32∧i=.int .i64 k∧wr=(((w.alloc (.cells (hB A) 57)).alloc (.cells #[.int .u64 0,.int .u64 0,.int .u64 0,.int .u64 0] 64)).alloc (.cells #[.int .u64 (top A 0 k),.int .u64 (top A 1 k),.int .u64 (top A 2 k),.int .u64 (top A 3 k)] 64)).drewN n) (fun i _=>32-(intOf i).toNat)
 case atStart=>exact ⟨0,0,by omega,rfl,by rw [World.drewN_zero,xC A 0 0 (by omega),xC A 1 0 (by omega),xC A 2 0 (by omega),xC A 3 0 (by omega)]⟩
 case round =>
  obtain ⟨k,n,hk,rfl,rfl⟩:=hrel
  by_cases hlt:k<32
  ·have hcell := hB_get A k hlt
   rcases (by omega:(31-(k:Int)) / 8=0∨(31-(k:Int)) / 8=1∨(31-(k:Int)) / 8=2∨(31-(k:Int)) / 8=3) with h8 | h8 | h8 | h8
   all_goals
    go_wp2
    go_region
    go_wp2
    go_roundw
    case rel =>
     refine ⟨k+1,n+1,by omega,by go_num,?_⟩
     have e8:8*((31-k)%8)=56-k%8*8:=by omega
     rw [e8,xAB (qK A k) (by have:=byt_lt A k;omega),top_byte_in A k,setCell_drewN,World.setCell_alloc_at _ _ _ _ _ (by simp)]
     first
      | (rw [zF A 3 k hlt (by omega),iO A 0 k (by omega) (by omega),iO A 1 k (by omega) (by omega),iO A 2 k (by omega) (by omega)];rfl)
      | (rw [zF A 2 k hlt (by omega),iO A 0 k (by omega) (by omega),iO A 1 k (by omega) (by omega),iO A 3 k (by omega) (by omega)];rfl)
      | (rw [zF A 1 k hlt (by omega),iO A 0 k (by omega) (by omega),iO A 2 k (by omega) (by omega),iO A 3 k (by omega) (by omega)];rfl)
      | (rw [zF A 0 k hlt (by omega),iO A 1 k (by omega) (by omega),iO A 2 k (by omega) (by omega),iO A 3 k (by omega) (by omega)];rfl)
    case measure=>simp [intOf];omega
  ·obtain rfl : k = 32 := by omega
   rw [top_end A 0 (by omega),top_end A 1 (by omega),top_end A 2 (by omega),top_end A 3 (by omega)]
   go_wp2
   go_returns
   refine ⟨rfl,?_⟩
   (exact bt)
set_option maxHeartbeats 1000000 in
set_option maxRecDepth 100000 in
theorem rbytes_any (A : Nat) (w : World) :
 Calls prog 122 #[U A] w fun e w'=>e=.returned (.agg (hB A))∧Below w.heap.size w w':=by
 go_enter func122,Tryz.ntmps122
 go_wp2
 obtain ⟨Z,hZ⟩:∃ Z:Array Value,Z= #[.int .u8 0,.int .u8 0,.int .u8 0,.int .u8 0,.int .u8 0,.int .u8 0,.int .u8 0,.int .u8 0,.int .u8 0,.int .u8 0,.int .u8 0,.int .u8 0,.int .u8 0,.int .u8 0,.int .u8 0,.int .u8 0,.int .u8 0,.int .u8 0,.int .u8 0,.int .u8 0,.int .u8 0,.int .u8 0,.int .u8 0,.int .u8 0,.int .u8 0,.int .u8 0,.int .u8 0,.int .u8 0,.int .u8 0,.int .u8 0,.int .u8 0,.int .u8 0]:=⟨_,rfl⟩
 rw [← hZ]
 have hz:Z.size=32:=by rw [hZ];rfl
 clear hZ
 go_loopw [6] (fun i wr=>∃ (k:Nat) (C:Array Value),k≤32∧i=.int .i64 k∧C.size=32∧(∀ j,j<k→C[j]? = some (.int .u8 (nR A j)))∧wr=((w.alloc (.cells #[.int .u64 (wd A 0),.int .u64 (wd A 1),.int .u64 (wd A 2),.int .u64 (wd A 3)] 64)).alloc (.cells Z 57)).alloc (.cells C 57)) (fun i _=>32-(intOf i).toNat)
 case atStart=>exact ⟨0,Z,by omega,rfl,hz,fun j hj=>by omega,rfl⟩
 case round =>
  obtain ⟨k,C,hk,rfl,hC,hj,rfl⟩:=hrel
  have HC:=Lib.hid hC;have HJ:=Lib.hid hj;have HZ:=Lib.hid hz
  clear hC hj hz
  by_cases hlt:k<32
  ·have hC2 : k < C.size := by have := HC.out; omega
   rcases (by omega:(31-(k:Int)) / 8=0∨(31-(k:Int)) / 8=1∨(31-(k:Int)) / 8=2∨(31-(k:Int)) / 8=3) with h8 | h8 | h8 | h8
   all_goals
    go_wp2
    go_roundw
    case rel =>
     first | (obtain ⟨g1,g2⟩:=qX HC.out hlt HJ.out (byt_wd' A 3 k hlt (by omega));exact ⟨k+1,_,by omega,by go_num,g1,g2,rfl⟩) | (obtain ⟨g1,g2⟩:=qX HC.out hlt HJ.out (byt_wd' A 2 k hlt (by omega));exact ⟨k+1,_,by omega,by go_num,g1,g2,rfl⟩) | (obtain ⟨g1,g2⟩:=qX HC.out hlt HJ.out (byt_wd' A 1 k hlt (by omega));exact ⟨k+1,_,by omega,by go_num,g1,g2,rfl⟩) | (obtain ⟨g1,g2⟩:=qX HC.out hlt HJ.out (byt_wd' A 0 k hlt (by omega));exact ⟨k+1,_,by omega,by go_num,g1,g2,rfl⟩)
    case measure=>simp [intOf];omega
  ·go_wp2_with (first | (refine wl_load (w.heap.size + 1 + 1) 57 C _ rfl (hp_3_2 _ _ _ _) underlying57 rfl (nV HC.out) ?_) | (refine wl_store (w.heap.size + 1) 57 Z C rfl rfl (hp_3_1 _ _ _ _) (nV HC.out) (HZ.out.trans HC.out.symm) (by rw [hB_ext HC.out (fun j h => HJ.out j (by omega))]; exact hB_one A) ?_))
   rw [sr_3_1]
   refine bodyPost_ret (results_cell_row rfl _ _ (w.heap.size+1) 57 C (0,0) _ rfl (hp_3_1 _ _ _ _) underlying57 rfl (nV HC.out)) rfl ?_
   refine ⟨by rw [hB_ext HC.out (fun j h=>HJ.out j (by omega))],?_⟩
   (exact bt)
theorem gmodulus_w  (w0:World):Calls prog 152 #[] w0 (jR (U pP) w0):=by
 refine Calls.of_ok (n:=2) (F:=(fun _=>True)) func152 rfl rfl rfl (by simp) jT (sS f152 1 [0] [] (fun ρ=>[pt (nb ρ 0)]) (fun ρ=>[(0,(nw ρ 0 (cL (cU 0) 64)))]) (jE [[]]) (fun ρ1=>sS f152 2 [0] [] (fun _=>[U 115792089237316195423570985008687907853269984665640564039457584007913129603823,undef]) (fun _=>[(1,(bD 0 (nb ρ1 0) (cL (cU 115792089237316195423570985008687907853269984665640564039457584007913129603823) 64)))]) (jE [[],[0]]) (fun _=>aF ?_)))
 exact mR (v:=(U 115792089237316195423570985008687907853269984665640564039457584007913129603823)) (fun _ hS=>⟨congrArg (fun x=>Ending.returned (U x)) (by decide +kernel),hS.bel⟩)
theorem yY (w0:World)  : Calls prog 152 #[] w0 (jR (U pP) w0):=gmodulus_w  w0
theorem gorder_w  (w0:World):Calls prog 154 #[] w0 (jR (U qP) w0):=by
 refine Calls.of_ok (n:=2) (F:=(fun _=>True)) func154 rfl rfl rfl (by simp) jT (sS f154 1 [0] [] (fun ρ=>[pt (nb ρ 0)]) (fun ρ=>[(0,(nw ρ 0 (cL (cU 0) 64)))]) (jE [[]]) (fun ρ1=>sS f154 2 [0] [] (fun _=>[U 57896044618658097711785492504343953926634992332820282019728792003956564801911,undef]) (fun _=>[(1,(bD 0 (nb ρ1 0) (cL (cU 57896044618658097711785492504343953926634992332820282019728792003956564801911) 64)))]) (jE [[],[0]]) (fun _=>aF ?_)))
 exact mR (v:=(U 57896044618658097711785492504343953926634992332820282019728792003956564801911)) (fun _ hS=>⟨congrArg (fun x=>Ending.returned (U x)) (by decide +kernel),hS.bel⟩)
theorem yC (w0:World)  : Calls prog 154 #[] w0 (jR (U qP) w0):=gorder_w  w0
theorem rgmodulus_w  (w0:World):Calls prog 163 #[] w0 (jR (U pP) w0):=by
 refine Calls.of_ok (n:=10) (F:=(fun _=>True)) func163 rfl rfl rfl (by simp) jT (sS f163 1 [0] [] (fun ρ=>[pt (nb ρ 0)]) (fun ρ=>[(0,(nw ρ 0 (cL (cU 0) 64)))]) (jE [[]]) (fun ρ1=>sS f163 9 [0,1] [] (fun ρ=>let qa:Value:=.bool (decide (0<36113));[U 0,U 36113,.tuple #[U ((0+M-36113)%M),qa],.tuple #[U ((0+M-36113)%M),qa],U ((0+M-36113)%M),qa,pt (nb ρ 6),undef,qa]) (fun ρ=>[(6,(nw ρ 6 (cL (cU 0) 64))),(7,(bD 49 (nb ρ 6) (cL (cU ((0+M-36113)%M)) 64)))]) (cR [[]]<|cC (fun _ w=>iE 36113 w (by decide))<|cC (fun _ w=>zQ 0 36113 w (by decide +kernel) (by decide +kernel))<|jE [[],[],[],[],[49],[]]) (fun _=>sS f163 2 [0] [1,0] (fun _=>[U ((0+M-36113)%M),undef]) (fun _=>[(1,(bD 0 (nb ρ1 0) (cL (cU ((0+M-36113)%M)) 64)))]) (jE [[1],[0]]) (fun _=>aF ?_))))
 exact mR (v:=(U ((0+M-36113)%M))) (fun _ hS=>⟨congrArg (fun x=>Ending.returned (U x)) (by decide +kernel),hS.bel⟩)
theorem lW (w0:World)  : Calls prog 163 #[] w0 (jR (U pP) w0):=rgmodulus_w  w0
theorem rgorder_w  (w0:World):Calls prog 149 #[] w0 (jR (U qP) w0):=by
 refine Calls.of_ok (n:=3) (F:=(fun _=>True)) func149 rfl rfl rfl (by simp) jT (sS f149 1 [0] [] (fun ρ=>[pt (nb ρ 0)]) (fun ρ=>[(0,(nw ρ 0 (cL (cU 0) 64)))]) (jE [[]]) (fun ρ1=>sS f149 3 [0] [] (fun _=>[U pP,U (shrZ pP 1),undef]) (fun _=>[(2,(bD 0 (nb ρ1 0) (cL (cU (shrZ pP 1)) 64)))]) (cC (fun _ w=>lW w)<|cC (fun _ w=>rshr_any pP 1 w oV)<|jE [[0]]) (fun _=>aF ?_)))
 exact mR (v:=(U (shrZ pP 1))) (fun _ hS=>⟨congrArg (fun x=>Ending.returned (U x)) (by decide +kernel),hS.bel⟩)
theorem wC (w0:World)  : Calls prog 149 #[] w0 (jR (U qP) w0):=rgorder_w  w0
theorem rgone_w  (w0:World):Calls prog 164 #[] w0 (jR (U 1) w0):=by
 refine Calls.of_ok (n:=2) (F:=(fun _=>True)) func164 rfl rfl rfl (by simp) jT (sS f164 1 [0] [] (fun ρ=>[pt (nb ρ 0)]) (fun ρ=>[(0,(nw ρ 0 (cL (cU 0) 64)))]) (jE [[]]) (fun ρ1=>sS f164 2 [0] [] (fun _=>[U 1,undef]) (fun _=>[(1,(bD 0 (nb ρ1 0) (cL (cU 1) 64)))]) (cC (fun _ w=>iE 1 w (by decide))<|jE [[0]]) (fun _=>aF ?_)))
 exact mR (v:=(U 1)) (fun _ hS=>⟨rfl,hS.bel⟩)
theorem rgone_any (w0:World)  : Calls prog 164 #[] w0 (jR (U 1) w0):=rgone_w  w0
theorem gmul_w (a:Nat) (b:Nat) (ha:a<M) (hb:b<M) (w0:World):Calls prog 174 #[U a,U b] w0 (jR (U (bV a b pP)) w0):=by
 refine Calls.of_ok (n:=9) (F:=(fun _=>True)) func174 rfl rfl rfl (by simp) jT (sS f174 3 [2,3,4] [] (fun ρ=>[pt (nb ρ 0),pt (nb ρ 1),pt (nb ρ 2)]) (fun ρ=>[(0,(nw ρ 0 (cL (cU a) 64))),(1,(nw ρ 1 (cL (cU b) 64))),(2,(nw ρ 2 (cL (cU 0) 64)))]) (jE [[],[],[]]) (fun ρ1=>sD f174 [0,0,0,7,15] 5 [4] [0,0,1] (fun _=>[U a,U b,U pP,U (bV a b pP),undef]) (fun _=>[(4,(bD 2 (nb ρ1 2) (cL (cU (bV a b pP)) 64)))]) (cR [[0],[1]]<|cC (fun _ w=>yY w)<|cC (fun _ w=>mulmod_any a b pP w ha hb oV)<|jE [[2]]) (fun _=>aF ?_)))
 exact mR (v:=(U (bV a b pP))) (fun _ hS=>⟨rfl,hS.bel⟩)
theorem gmul_any (a b:Nat) (w0:World) (ha:a<M) (hb:b<M):Calls prog 174 #[U a,U b] w0 (jR (U (bV a b pP)) w0):=gmul_w a b ha hb w0
theorem rgmul_w (a:Nat) (b:Nat) (ha:a<M) (hb:b<M) (w0:World):Calls prog 146 #[U a,U b] w0 (jR (U (bV a b pP)) w0):=by
 refine Calls.of_ok (n:=9) (F:=(fun _=>True)) func146 rfl rfl rfl (by simp) jT (sS f146 3 [2,3,4] [] (fun ρ=>[pt (nb ρ 0),pt (nb ρ 1),pt (nb ρ 2)]) (fun ρ=>[(0,(nw ρ 0 (cL (cU a) 64))),(1,(nw ρ 1 (cL (cU b) 64))),(2,(nw ρ 2 (cL (cU 0) 64)))]) (jE [[],[],[]]) (fun ρ1=>sD f146 [0,0,0,7,15] 5 [4] [0,0,1] (fun _=>[U a,U b,U pP,U (bV a b pP),undef]) (fun _=>[(4,(bD 2 (nb ρ1 2) (cL (cU (bV a b pP)) 64)))]) (cR [[0],[1]]<|cC (fun _ w=>lW w)<|cC (fun _ w=>vU a b pP w ha hb oV)<|jE [[2]]) (fun _=>aF ?_)))
 exact mR (v:=(U (bV a b pP))) (fun _ hS=>⟨rfl,hS.bel⟩)
theorem rgmul_any (a b:Nat) (w0:World) (ha:a<M) (hb:b<M):Calls prog 146 #[U a,U b] w0 (jR (U (bV a b pP)) w0):=rgmul_w a b ha hb w0
theorem gexp_w (a:Nat) (e:Nat) (ha:a<M) (he:e<M) (w0:World):Calls prog 153 #[U a,U e] w0 (jR (U (bK a e pP)) w0):=by
 refine Calls.of_ok (n:=37) (F:=(fun _=>True)) func153 rfl rfl rfl (by simp) jT (sS f153 3 [2,3,4] [] (fun ρ=>[pt (nb ρ 0),pt (nb ρ 1),pt (nb ρ 2)]) (fun ρ=>[(0,(nw ρ 0 (cL (cU a) 64))),(1,(nw ρ 1 (cL (cU e) 64))),(2,(nw ρ 2 (cL (cU 0) 64)))]) (jE [[],[],[]]) (fun ρ1=>sS f153 3 [2,3,4,5] [] (fun ρ=>[U 1,pt (nb ρ 1),undef]) (fun ρ=>[(1,(nw ρ 1 (cL (cU 0) 64))),(2,(bD 11 (nb ρ 1) (cL (cU 1) 64)))]) (cC (fun _ w=>lF 1 w (by decide))<|jE [[],[11]]) (fun ρ2=>sS f153 3 [2,3,4,5,6] [] (fun _=>[U e,vn (dG e),vn (dG e)]) (fun _=>[]) (cR [[1]]<|cC (fun _ w=>len_any e w he)<|jE [[]]) (fun _=>aB (jJ f153 2 [2,3,4,5,6,12,13] [vn (dG e),vi 0] (aI ?_))))))
 refine oL (σ:=Nat × Nat) (fun ⟨i,_⟩=>[(2,(pt (nb ρ1 0))),(3,(pt (nb ρ1 1))),(4,(pt (nb ρ1 2))),(5,(pt (nb ρ2 1))),(6,(vn (dG e))),(12,(vn (dG e))),(13,(vn i))]) (fun ⟨_,p⟩=>[(nb ρ1 0,(cL (cU a) 64)),(nb ρ1 1,(cL (cU e) 64)),(nb ρ1 2,(cL (cU 0) 64)),(nb ρ2 1,(cL (cU p) 64))]) (fun ⟨i,_⟩=>dG e-i)
  (fun ⟨i,p⟩=>(i≤dG e)∧(p=a^(e / 2^(dG e-i))%pP)) (0,1) (⟨Nat.zero_le _,exp_one a e⟩) [] ?_
 rintro ⟨i,p⟩ ⟨hi,hp⟩
 have hpM:p<M:=gexp_lt hp
 refine jJ f153 1 [2,3,4,5,6,12,13,14] [.bool (decide (((i:Nat):Int)<((dG e:Nat):Int)))] (aB (oC (decide (((i:Nat):Int)<((dG e:Nat):Int))) (fun hb1=>?_) (fun hb1=>?_)))
 ·rw [hb1]
  refine aG (aA (aB (aI (jJ f153 2 [2,3,4,5,6,7,12,13] [vn i,vn i] (sS f153 5 [2,3,4,5,6,8,12,13] [] (fun _=>[vn (dG e),vn (dG e-1),vn i,vn (dG e-1-i),vn (dG e-1-i)]) (fun _=>[]) (cR [[]]<|jW (fun ρ=>(((dG e:Nat):Int)-1)) (fun _=>(dG e-1)) (fun _=>(zY (dG e) 1 (by have h1:=yT hb1;have h2:=iJ e he;omega) (by have h1:=yT hb1;have h2:=iJ e he;omega)))<|cR [[]]<|jW (fun ρ=>(((dG e-1:Nat):Int)-((i:Nat):Int))) (fun _=>(dG e-1-i)) (fun _=>(zY (dG e-1) i (by have h1:=yT hb1;have h2:=iJ e he;omega) (by have h1:=yT hb1;have h2:=iJ e he;omega)))<|jE [[]]) (fun _=>sS f153 4 [2,3,4,5,6,8,12,13] [] (fun _=>[U p,U p,U (bV p p pP),undef]) (fun _=>[(3,(bD 3 (nb ρ2 1) (cL (cU (bV p p pP)) 64)))]) (cR [[3],[3]]<|cC (fun _ w=>gmul_any p p w hpM hpM)<|jE [[3]]) (fun _=>sS f153 9 [2,3,4,5,6,12,13,31] [] (fun _=>[vn (dG e-1-i),vn ((dG e-1-i) / 64),jp (nb ρ1 1) ((dG e-1-i) / 64),.int .u64 (wd e ((dG e-1-i) / 64)),vn (dG e-1-i),vn ((dG e-1-i)%64),.int .u64 (shrW (wd e ((dG e-1-i) / 64)) ((dG e-1-i)%64)),.int .u64 (bits .and .u64 (shrW (wd e ((dG e-1-i) / 64)) ((dG e-1-i)%64)) 1),.bool (nJ e (dG e-1-i))]) (fun _=>[]) (cR [[]]<|cB (a:=fun ρ=>(vn (dG e-1-i))) (b:=fun ρ=>(vi 64)) (v:=fun ρ=>(vn ((dG e-1-i) / 64))) .quo 3 (fun _ w=>run_quo_nat (dG e-1-i) 64 ((dG e-1-i) / 64) (by decide) (by have h1:=yT hb1;have h2:=iJ e he;omega) rfl w)<|cX (jS (fun _=>Instr.indexAt 64 (pt (nb ρ1 1)) (vn ((dG e-1-i) / 64))) (fun _=>(jp (nb ρ1 1) ((dG e-1-i) / 64))) (fun _ w=>aX (n:=(((dG e-1-i) / 64:Nat):Int)) (i:=(dG e-1-i) / 64) underlying64 sizeOf62 (⟨rfl,(by have h1:=yT hb1;have h2:=iJ e he;omega)⟩) w))<|cX (kG _ 1 62 (fun _=>nb ρ1 1) (fun _=>(dG e-1-i) / 64) (fun _=>(cU e)) 64 (0,0) (fun _=>(.int .u64 (wd e ((dG e-1-i) / 64)))) (fun _=>by kernel_rfl) isAgg62 (fun _=>lL e ((dG e-1-i) / 64) (by have h1:=yT hb1;have h2:=iJ e he;omega)))<|cR [[]]<|cB (a:=fun ρ=>(vn (dG e-1-i))) (b:=fun ρ=>(vi 64)) (v:=fun ρ=>(vn ((dG e-1-i)%64))) .rem 3 (fun _ w=>run_rem_nat (dG e-1-i) 64 ((dG e-1-i)%64) (by decide) rfl w)<|cB (a:=fun ρ=>(.int .u64 (wd e ((dG e-1-i) / 64)))) (b:=fun ρ=>(vn ((dG e-1-i)%64))) (v:=fun ρ=>(.int .u64 (shrW (wd e ((dG e-1-i) / 64)) ((dG e-1-i)%64)))) .shr 62 (fun _ w=>run_shr (wd e ((dG e-1-i) / 64)) ((dG e-1-i)%64) w)<|cR [[]]<|cA (fun _=>(.bool (nJ e (dG e-1-i)))) (fun _=>congrArg Value.bool (expbit e (dG e-1-i)))<|cN) (fun _=>oC (nJ e (dG e-1-i)) (fun hb2=>?_) (fun hb2=>?_)))))))))
  ·rw [hb2]
   refine rS f153 4 [2,3,4,5,6,12,13] [] (fun _=>[U (bV p p pP),U a,U (bV (bV p p pP) a pP),undef]) (fun _=>[(3,(bD 3 (nb ρ2 1) (cL (cU (bV (bV p p pP) a pP)) 64)))]) (cR [[3],[0]]<|cC (f:=174) (args:=fun ρ=> #[U (bV p p pP),U a]) (v:=fun ρ=>(U (bV (bV p p pP) a pP))) (fun _ w=>(fun w=>gmul_any (bV p p pP) a w (wE _ _ oV) ha) w)<|jE [[3]]) (fun _=>aJ (aA (rS f153 2 [2,3,4,5,6,12,13] [] (fun _=>[vn (i+1),vn (i+1)]) (fun _=>[]) (jW (fun ρ=>(((i:Nat):Int)+1)) (fun _=>(i+1)) (fun _=>(dX i 1 (by have h1:=yT hb1;have h2:=iJ e he;omega)))<|jE [[]]) (fun _=>?_))))
   exact mN (i+1,bV (bV p p pP) a pP) (by show dG e-(i+1)<dG e-i;have h1:=yT hb1;have h2:=iJ e he;omega) (⟨by have h1:=yT hb1;have h2:=iJ e he;omega,by rw [exp_step1 hp (Nat.lt_trans Nat.zero_lt_one pF),show dG e-(i+1)=(dG e-i)-1 by omega,← half_odd (by have h1:=yT hb1;have h2:=iJ e he;omega) (by rw [show dG e-i-1=dG e-1-i by omega];exact hb2)]⟩) []
  rw [hb2]
  refine aG (aJ (aA (rS f153 2 [2,3,4,5,6,12,13] [] (fun _=>[vn (i+1),vn (i+1)]) (fun _=>[]) (jW (fun ρ=>(((i:Nat):Int)+1)) (fun _=>(i+1)) (fun _=>(dX i 1 (by have h1:=yT hb1;have h2:=iJ e he;omega)))<|jE [[]]) (fun _=>?_))))
  exact mN (i+1,bV p p pP) (by show dG e-(i+1)<dG e-i;have h1:=yT hb1;have h2:=iJ e he;omega) (⟨by have h1:=yT hb1;have h2:=iJ e he;omega,by rw [exp_step hp (Nat.lt_trans Nat.zero_lt_one pF),show dG e-(i+1)=(dG e-i)-1 by omega,← half_even (by have h1:=yT hb1;have h2:=iJ e he;omega) (by rw [show dG e-i-1=dG e-1-i by omega];exact hb2)]⟩) []
 rw [hb1]
 refine bF (aN (aN (aT (aA (sS f153 2 [4] [0,0,1,0] (fun _=>[U p,undef]) (fun _=>[(1,(bD 2 (nb ρ1 2) (cL (cU p) 64)))]) (jE [[3],[2]]) (fun _=>aF ?_))))))
 exact mR (v:=(U p)) (fun _ hS=>⟨congrArg (fun x=>Ending.returned (U x)) (gexp_end (i:=i) (by have h1:=yF hb1;omega) hp),hS.bel⟩)
theorem gexp_any (a e:Nat) (w0:World) (ha:a<M) (he:e<M):Calls prog 153 #[U a,U e] w0 (jR (U (bK a e pP)) w0):=gexp_w a e ha he w0
theorem rgexp_w (a:Nat) (e:Nat) (ha:a<M) (he:e<M) (w0:World):Calls prog 150 #[U a,U e] w0 (jR (U (bK a e pP)) w0):=by
 refine Calls.of_ok (n:=9) (F:=(fun _=>True)) func150 rfl rfl rfl (by simp) jT (sS f150 3 [2,3,4] [] (fun ρ=>[pt (nb ρ 0),pt (nb ρ 1),pt (nb ρ 2)]) (fun ρ=>[(0,(nw ρ 0 (cL (cU a) 64))),(1,(nw ρ 1 (cL (cU e) 64))),(2,(nw ρ 2 (cL (cU 0) 64)))]) (jE [[],[],[]]) (fun ρ1=>sD f150 [0,0,0,7,15] 5 [4] [0,0,1] (fun _=>[U a,U e,U pP,U (bK a e pP),undef]) (fun _=>[(4,(bD 2 (nb ρ1 2) (cL (cU (bK a e pP)) 64)))]) (cR [[0],[1]]<|cC (fun _ w=>lW w)<|cC (fun _ w=>rexpmod_any a e pP w ha he oV)<|jE [[2]]) (fun _=>aF ?_)))
 exact mR (v:=(U (bK a e pP))) (fun _ hS=>⟨rfl,hS.bel⟩)
theorem rgexp_any (a e:Nat) (w0:World) (ha:a<M) (he:e<M):Calls prog 150 #[U a,U e] w0 (jR (U (bK a e pP)) w0):=rgexp_w a e ha he w0
theorem gmember_w (a:Nat) (ha:a<M) (w0:World):Calls prog 132 #[U a] w0 (jR (.bool (mW a)) w0):=by
 refine Calls.of_ok (n:=17) (F:=(fun _=>True)) func132 rfl rfl rfl (by simp) jT (sS f132 2 [1,2] [] (fun ρ=>[pt (nb ρ 0),vF]) (fun ρ=>[(0,(nw ρ 0 (cL (cU a) 64)))]) (jE [[],[]]) (fun _=>aB ?_))
 rcases Bool.eq_false_or_eq_true (decide (a=0)) with hb1 | hb1
 ·refine sD f132 [0,0,3,7,15,15,63,127,255] 9 [1,2,11] [] (fun _=>[U a,U 0,vT,vT,undef,undef,undef,undef,vT]) (fun _=>[]) (cR [[0],[]]<|cB (a:=fun ρ=>(U a)) (b:=fun ρ=>(U 0)) (v:=fun ρ=>vT) .eql 64 (fun _ _=>(eqlU a 0 ha (by decide +kernel) _).trans (by rw [hb1];try rfl))<|jE [[],[],[],[],[],[]]) (fun _=>oY (jJ f132 1 [1,2] [vF] (aF (aC ?_))))
  exact mR (v:=vF) (fun _ hS=>⟨jB (mem_no1 hb1),hS.bel⟩)
 refine sD f132 [0,0,3,7,15,15,63,127,255] 9 [1,2,11] [] (fun _=>let qa:Value:=.bool (decide (0≤(fJ a pP)));[U a,U 0,vF,vF,U a,U pP,vi (fJ a pP),qa,qa]) (fun _=>[]) (cR [[0],[]]<|cB (a:=fun ρ=>(U a)) (b:=fun ρ=>(U 0)) (v:=fun ρ=>vF) .eql 64 (fun _ _=>(eqlU a 0 ha (by decide +kernel) _).trans (by rw [hb1];try rfl))<|cR [[],[0]]<|cC (fun _ w=>yY w)<|cC (fun _ w=>uN a pP w ha oV)<|jE [[],[]]) (fun _=>oC (decide (0≤(fJ a pP))) (fun hb2=>?_) (fun hb2=>?_))
 ·rw [hb2]
  refine jJ f132 1 [1,2] [vF] (aF (aC ?_))
  exact mR (v:=vF) (fun _ hS=>⟨jB (mem_no2 hb2),hS.bel⟩)
 rw [hb2]
 refine aG (aA (sD f132 [0,0,3,7,15,31] 6 [2] [0] (fun _=>let qa:Value:=.bool (decide (bK a qP pP=1));[U a,U qP,U (bK a qP pP),U 1,qa,qa]) (fun _=>[]) (cR [[0]]<|cC (fun _ w=>yC w)<|cC (fun _ w=>gexp_any a qP w ha sW)<|cC (fun _ w=>lF 1 w (by decide))<|cB (a:=fun ρ=>(U (bK a qP pP))) (b:=fun ρ=>(U 1)) (v:=fun ρ=>(.bool (decide (bK a qP pP=1)))) .eql 64 (fun _ _=>eqlU (bK a qP pP) 1 (vZ _ _ oV) (by decide +kernel) _)<|jE [[]]) (fun _=>aF ?_)))
 exact mR (v:=(.bool (decide (bK a qP pP=1)))) (fun _ hS=>⟨jB (mem_yes hb1 (oA (yF hb2))),hS.bel⟩)
theorem gmember_any (a:Nat) (w0:World) (ha:a<M):Calls prog 132 #[U a] w0 (jR (.bool (mW a)) w0):=gmember_w a ha w0
theorem gpower_w (e:Nat) (he:e<M) (w0:World):Calls prog 134 #[U e] w0 (jR (U (bK 4 e pP)) w0):=by
 refine Calls.of_ok (n:=6) (F:=(fun _=>True)) func134 rfl rfl rfl (by simp) jT (sS f134 2 [1,2] [] (fun ρ=>[pt (nb ρ 0),pt (nb ρ 1)]) (fun ρ=>[(0,(nw ρ 0 (cL (cU e) 64))),(1,(nw ρ 1 (cL (cU 0) 64)))]) (jE [[],[]]) (fun ρ1=>sD f134 [0,0,3,7] 4 [2] [0,1] (fun _=>[U 4,U e,U (bK 4 e pP),undef]) (fun _=>[(3,(bD 1 (nb ρ1 1) (cL (cU (bK 4 e pP)) 64)))]) (cC (fun _ w=>lF 4 w (by decide))<|cR [[0]]<|cC (fun _ w=>gexp_any 4 e w (by decide +kernel) he)<|jE [[1]]) (fun _=>aF ?_)))
 exact mR (v:=(U (bK 4 e pP))) (fun _ hS=>⟨rfl,hS.bel⟩)
theorem gpower_any (e:Nat) (w0:World) (he:e<M):Calls prog 134 #[U e] w0 (jR (U (bK 4 e pP)) w0):=gpower_w e he w0
theorem gaddscalar_w (a:Nat) (b:Nat) (ha:a<M) (hb:b<M) (w0:World):Calls prog 180 #[U a,U b] w0 (jR (U (bC a b qP)) w0):=by
 refine Calls.of_ok (n:=9) (F:=(fun _=>True)) func180 rfl rfl rfl (by simp) jT (sS f180 3 [2,3,4] [] (fun ρ=>[pt (nb ρ 0),pt (nb ρ 1),pt (nb ρ 2)]) (fun ρ=>[(0,(nw ρ 0 (cL (cU a) 64))),(1,(nw ρ 1 (cL (cU b) 64))),(2,(nw ρ 2 (cL (cU 0) 64)))]) (jE [[],[],[]]) (fun ρ1=>sD f180 [0,0,0,7,15] 5 [4] [0,0,1] (fun _=>[U a,U b,U qP,U (bC a b qP),undef]) (fun _=>[(4,(bD 2 (nb ρ1 2) (cL (cU (bC a b qP)) 64)))]) (cR [[0],[1]]<|cC (fun _ w=>yC w)<|cC (fun _ w=>addmod_any a b qP w ha hb sW)<|jE [[2]]) (fun _=>aF ?_)))
 exact mR (v:=(U (bC a b qP))) (fun _ hS=>⟨rfl,hS.bel⟩)
theorem wH (a b:Nat) (w0:World) (ha:a<M) (hb:b<M):Calls prog 180 #[U a,U b] w0 (jR (U (bC a b qP)) w0):=gaddscalar_w a b ha hb w0
theorem gscalar_w (h:Nat) (hh:h<M) (w0:World):Calls prog 181 #[.agg (hB h)] w0 (jR (U (bC h 0 qP)) w0):=by
 refine Calls.of_ok (n:=7) (F:=(fun _=>True)) func181 rfl rfl rfl (by simp) jT (sS f181 2 [1,2] [] (fun ρ=>[pt (nb ρ 0),pt (nb ρ 1)]) (fun ρ=>[(0,(nw ρ 0 (cL (hB h) 57))),(1,(nw ρ 1 (cL (cU 0) 64)))]) (jE [[],[]]) (fun ρ1=>sS f181 5 [2] [0,1] (fun _=>[.agg (hB h),U h,U 0,U (bC h 0 qP),undef]) (fun _=>[(4,(bD 1 (nb ρ1 1) (cL (cU (bC h 0 qP)) 64)))]) (cR [[0]]<|cC (fun _ w=>frombytes_any h w)<|cR [[]]<|cC (fun _ w=>wH h 0 w hh (by decide +kernel))<|jE [[1]]) (fun _=>aF ?_)))
 exact mR (v:=(U (bC h 0 qP))) (fun _ hS=>⟨rfl,hS.bel⟩)
theorem gscalar_any (h:Nat) (w0:World) (hh:h<M):Calls prog 181 #[.agg (hB h)] w0 (jR (U (bC h 0 qP)) w0):=gscalar_w h hh w0
theorem rgmember_w (a:Nat) (ha:a<M) (w0:World):Calls prog 141 #[U a] w0 (jR (.bool (mW a)) w0):=by
 refine Calls.of_ok (n:=19) (F:=(fun _=>True)) func141 rfl rfl rfl (by simp) jT (sS f141 2 [1,2] [] (fun ρ=>[pt (nb ρ 0),vF]) (fun ρ=>[(0,(nw ρ 0 (cL (cU a) 64)))]) (jE [[],[]]) (fun _=>?_))
 rcases Bool.eq_false_or_eq_true (decide (a=0)) with hb1 | hb1
 ·refine sD f141 [0,1,3,7,15,15,63,127,255,511,1023,1023,4095,8191,16383,32767,65535] 17 [2] [0] (fun _=>[U a,vT,vF,vF,undef,undef,undef,undef,vF,vF,undef,undef,undef,undef,undef,vF,vF]) (fun _=>[]) (cR [[0]]<|cC (f:=83) (args:=fun ρ=> #[U a]) (v:=fun ρ=>vT) (fun _ w=>by as_aux_lemma=>(have hcall:=(fun w=>iI a w ha) w;rw [hb1] at hcall;exact hcall))<|jE [[],[],[],[],[],[],[],[],[],[],[],[],[],[],[]]) (fun _=>aF ?_)
  exact mR (v:=vF) (fun _ hS=>⟨jB (mem_no1 hb1),hS.bel⟩)
 rcases Bool.eq_false_or_eq_true (decide ((fJ a pP)<0)) with hb2 | hb2
 ·refine sD f141 [0,1,3,7,15,15,63,127,255,511,1023,1023,4095,8191,16383,32767,65535] 17 [2] [0] (fun _=>let qa:Value:=.bool (decide (bK a qP pP=1));[U a,vF,vT,vT,U a,U pP,vi (fJ a pP),vT,vT,vT,U a,U qP,U (bK a qP pP),U 1,qa,qa,qa]) (fun _=>[]) (cR [[0]]<|cC (f:=83) (args:=fun ρ=> #[U a]) (v:=fun ρ=>vF) (fun _ w=>by as_aux_lemma=>(have hcall:=(fun w=>iI a w ha) w;rw [hb1] at hcall;exact hcall))<|cR [[],[],[0]]<|cC (fun _ w=>lW w)<|cC (fun _ w=>xAI a pP w ha oV)<|cA (fun _=>vT) (fun _=>congrArg Value.bool hb2)<|cR [[],[],[0]]<|cC (fun _ w=>wC w)<|cC (fun _ w=>rgexp_any a qP w ha sW)<|cC (fun _ w=>rgone_any w)<|cB (a:=fun ρ=>(U (bK a qP pP))) (b:=fun ρ=>(U 1)) (v:=fun ρ=>(.bool (decide (bK a qP pP=1)))) .eql 64 (fun _ _=>eqlU (bK a qP pP) 1 (vZ _ _ oV) (by decide +kernel) _)<|jE [[],[]]) (fun _=>aF ?_)
  exact mR (v:=(.bool (decide (bK a qP pP=1)))) (fun _ hS=>⟨jB (mem_yes hb1 (oA (yT hb2))),hS.bel⟩)
 refine sD f141 [0,1,3,7,15,15,63,127,255,511,1023,1023,4095,8191,16383,32767,65535] 17 [2] [0] (fun _=>[U a,vF,vT,vT,U a,U pP,vi (fJ a pP),vF,vF,vF,undef,undef,undef,undef,undef,vF,vF]) (fun _=>[]) (cR [[0]]<|cC (f:=83) (args:=fun ρ=> #[U a]) (v:=fun ρ=>vF) (fun _ w=>by as_aux_lemma=>(have hcall:=(fun w=>iI a w ha) w;rw [hb1] at hcall;exact hcall))<|cR [[],[],[0]]<|cC (fun _ w=>lW w)<|cC (fun _ w=>xAI a pP w ha oV)<|cA (fun _=>vF) (fun _=>congrArg Value.bool hb2)<|jE [[],[],[],[],[],[],[],[],[]]) (fun _=>aF ?_)
 exact mR (v:=vF) (fun _ hS=>⟨jB (mem_no3 hb2),hS.bel⟩)
theorem rgmember_any (a:Nat) (w0:World) (ha:a<M):Calls prog 141 #[U a] w0 (jR (.bool (mW a)) w0):=rgmember_w a ha w0
theorem rgpower_w (e:Nat) (he:e<M) (w0:World):Calls prog 130 #[U e] w0 (jR (U (bK 4 e pP)) w0):=by
 refine Calls.of_ok (n:=6) (F:=(fun _=>True)) func130 rfl rfl rfl (by simp) jT (sS f130 2 [1,2] [] (fun ρ=>[pt (nb ρ 0),pt (nb ρ 1)]) (fun ρ=>[(0,(nw ρ 0 (cL (cU e) 64))),(1,(nw ρ 1 (cL (cU 0) 64)))]) (jE [[],[]]) (fun ρ1=>sD f130 [0,0,3,7] 4 [2] [0,1] (fun _=>[U 4,U e,U (bK 4 e pP),undef]) (fun _=>[(3,(bD 1 (nb ρ1 1) (cL (cU (bK 4 e pP)) 64)))]) (cC (fun _ w=>iE 4 w (by decide))<|cR [[0]]<|cC (fun _ w=>rgexp_any 4 e w (by decide +kernel) he)<|jE [[1]]) (fun _=>aF ?_)))
 exact mR (v:=(U (bK 4 e pP))) (fun _ hS=>⟨rfl,hS.bel⟩)
theorem rgpower_any (e:Nat) (w0:World) (he:e<M):Calls prog 130 #[U e] w0 (jR (U (bK 4 e pP)) w0):=rgpower_w e he w0
theorem rgaddscalar_w (a:Nat) (b:Nat) (ha:a<M) (hb:b<M) (w0:World):Calls prog 144 #[U a,U b] w0 (jR (U (bC a b qP)) w0):=by
 refine Calls.of_ok (n:=9) (F:=(fun _=>True)) func144 rfl rfl rfl (by simp) jT (sS f144 3 [2,3,4] [] (fun ρ=>[pt (nb ρ 0),pt (nb ρ 1),pt (nb ρ 2)]) (fun ρ=>[(0,(nw ρ 0 (cL (cU a) 64))),(1,(nw ρ 1 (cL (cU b) 64))),(2,(nw ρ 2 (cL (cU 0) 64)))]) (jE [[],[],[]]) (fun ρ1=>sD f144 [0,0,0,7,15] 5 [4] [0,0,1] (fun _=>[U a,U b,U qP,U (bC a b qP),undef]) (fun _=>[(4,(bD 2 (nb ρ1 2) (cL (cU (bC a b qP)) 64)))]) (cR [[0],[1]]<|cC (fun _ w=>wC w)<|cC (fun _ w=>raddmod_any a b qP w ha hb sW)<|jE [[2]]) (fun _=>aF ?_)))
 exact mR (v:=(U (bC a b qP))) (fun _ hS=>⟨rfl,hS.bel⟩)
theorem uP (a b:Nat) (w0:World) (ha:a<M) (hb:b<M):Calls prog 144 #[U a,U b] w0 (jR (U (bC a b qP)) w0):=rgaddscalar_w a b ha hb w0
theorem rgscalar_w (h:Nat) (hh:h<M) (w0:World):Calls prog 145 #[.agg (hB h)] w0 (jR (U (bC h 0 qP)) w0):=by
 refine Calls.of_ok (n:=7) (F:=(fun _=>True)) func145 rfl rfl rfl (by simp) jT (sS f145 2 [1,2] [] (fun ρ=>[pt (nb ρ 0),pt (nb ρ 1)]) (fun ρ=>[(0,(nw ρ 0 (cL (hB h) 57))),(1,(nw ρ 1 (cL (cU 0) 64)))]) (jE [[],[]]) (fun ρ1=>sS f145 5 [2] [0,1] (fun _=>[.agg (hB h),U h,U 0,U (bC h 0 qP),undef]) (fun _=>[(4,(bD 1 (nb ρ1 1) (cL (cU (bC h 0 qP)) 64)))]) (cR [[0]]<|cC (fun _ w=>rfrombytes_any h w)<|cR [[]]<|cC (fun _ w=>uP h 0 w hh (by decide +kernel))<|jE [[1]]) (fun _=>aF ?_)))
 exact mR (v:=(U (bC h 0 qP))) (fun _ hS=>⟨rfl,hS.bel⟩)
theorem zA (h:Nat) (w0:World) (hh:h<M):Calls prog 145 #[.agg (hB h)] w0 (jR (U (bC h 0 qP)) w0):=rgscalar_w h hh w0
theorem scalarb_any (a:Nat) (ha:a<M) (w0:World):Calls prog 155 #[U a] w0 (jR (.bool (scB a)) w0):=by
 refine Calls.of_ok (n:=7) (F:=(fun _=>True)) func155 rfl rfl rfl (by simp) jT (sS f155 2 [1,2] [] (fun ρ=>[pt (nb ρ 0),vF]) (fun ρ=>[(0,(nw ρ 0 (cL (cU a) 64)))]) (jE [[],[]]) (fun _=>sD f155 [0,0,3,7,15] 5 [2] [0] (fun _=>let qa:Value:=.bool (decide ((fJ a qP)<0));[U a,U qP,vi (fJ a qP),qa,qa]) (fun _=>[]) (cR [[0]]<|cC (fun _ w=>yC w)<|cC (fun _ w=>uN a qP w ha sW)<|jE [[],[]]) (fun _=>aF ?_)))
 exact mR (v:=(.bool (decide ((fJ a qP)<0)))) (fun _ hS=>⟨jB (sc_dec a),hS.bel⟩)
theorem secret_any (x:Nat) (hx:x<M) (w0:World):Calls prog 133 #[U x] w0 (jR (.bool (iM x)) w0):=by
 refine Calls.of_ok (n:=10) (F:=(fun _=>True)) func133 rfl rfl rfl (by simp) jT (sS f133 2 [1,2] [] (fun ρ=>[pt (nb ρ 0),vF]) (fun ρ=>[(0,(nw ρ 0 (cL (cU x) 64)))]) (jE [[],[]]) (fun _=>?_))
 rcases Bool.eq_false_or_eq_true (decide (x=0)) with hb1 | hb1
 ·refine sS f133 8 [2] [0] (fun _=>[U x,U 0,vF,vF,undef,undef,vF,vF]) (fun _=>[]) (cR [[0],[]]<|cB (a:=fun ρ=>(U x)) (b:=fun ρ=>(U 0)) (v:=fun ρ=>vF) .neq 64 (fun _ _=>(neqU x 0 hx (by decide +kernel) _).trans (by rw [hb1];try rfl))<|jE [[],[],[],[],[]]) (fun _=>aF ?_)
  exact mR (v:=vF) (fun _ hS=>⟨jB (sec_0 hb1),hS.bel⟩)
 refine sS f133 8 [2] [0] (fun _=>[U x,U 0,vT,vT,U x,.bool (scB x),.bool (scB x),.bool (scB x)]) (fun _=>[]) (cR [[0],[]]<|cB (a:=fun ρ=>(U x)) (b:=fun ρ=>(U 0)) (v:=fun ρ=>vT) .neq 64 (fun _ _=>(neqU x 0 hx (by decide +kernel) _).trans (by rw [hb1];try rfl))<|cR [[],[0]]<|cC (fun _ w=>scalarb_any x hx w)<|jE [[],[]]) (fun _=>aF ?_)
 exact mR (v:=(.bool (scB x))) (fun _ hS=>⟨jB (sec_1 hb1),hS.bel⟩)
theorem rsecret_any (x:Nat) (hx:x<M) (w0:World):Calls prog 129 #[U x] w0 (jR (.bool (iM x)) w0):=by
 refine Calls.of_ok (n:=12) (F:=(fun _=>True)) func129 rfl rfl rfl (by simp) jT (sS f129 2 [1,2] [] (fun ρ=>[pt (nb ρ 0),vF]) (fun ρ=>[(0,(nw ρ 0 (cL (cU x) 64)))]) (jE [[],[]]) (fun _=>?_))
 rcases Bool.eq_false_or_eq_true (decide (x=0)) with hb1 | hb1
 ·refine sD f129 [0,1,3,7,15,15,63,127,255,511] 10 [2] [0] (fun _=>[U x,vT,vF,vF,undef,undef,undef,undef,vF,vF]) (fun _=>[]) (cR [[0]]<|cC (f:=83) (args:=fun ρ=> #[U x]) (v:=fun ρ=>vT) (fun _ w=>by as_aux_lemma=>(have hcall:=(fun w=>iI x w hx) w;rw [hb1] at hcall;exact hcall))<|jE [[],[],[],[],[],[],[],[]]) (fun _=>aF ?_)
  exact mR (v:=vF) (fun _ hS=>⟨jB (sec_0 hb1),hS.bel⟩)
 refine sD f129 [0,1,3,7,15,15,63,127,255,511] 10 [2] [0] (fun _=>let qa:Value:=.bool (decide ((fJ x qP)<0));[U x,vF,vT,vT,U x,U qP,vi (fJ x qP),qa,qa,qa]) (fun _=>[]) (cR [[0]]<|cC (f:=83) (args:=fun ρ=> #[U x]) (v:=fun ρ=>vF) (fun _ w=>by as_aux_lemma=>(have hcall:=(fun w=>iI x w hx) w;rw [hb1] at hcall;exact hcall))<|cR [[],[],[0]]<|cC (fun _ w=>wC w)<|cC (fun _ w=>xAI x qP w hx sW)<|jE [[],[],[]]) (fun _=>aF ?_)
 exact mR (v:=(.bool (decide ((fJ x qP)<0)))) (fun _ hS=>⟨jB ((sc_dec x).trans (sec_1 hb1)),hS.bel⟩)
theorem yD (x:Nat) (hx:x<M) (w0:World):Calls prog 103 #[U x] w0 (jR (.tuple #[U (dK x),vi (iW x)]) w0):=by
 refine Calls.of_ok (n:=10) (F:=(fun _=>True)) func103 rfl rfl rfl (by simp) jT (sS f103 3 [1,2,3] [] (fun ρ=>[pt (nb ρ 0),pt (nb ρ 1),vi 0]) (fun ρ=>[(0,(nw ρ 0 (cL (cU x) 64))),(1,(nw ρ 1 (cL (cU 0) 64)))]) (jE [[],[],[]]) (fun ρ1=>aB (sS f103 3 [1,2,3,6] [] (fun _=>[U x,.bool (iM x),.bool (!(iM x))]) (fun _=>[]) (cR [[0]]<|cC (fun _ w=>secret_any x hx w)<|jE [[]]) (fun _=>oC (!(iM x)) (fun hb1=>?_) (fun hb1=>?_)))))
 ·rw [hb1]
  refine sS f103 3 [1,2,3] [] (fun _=>[U 0,undef,vi 60]) (fun _=>[(1,(bD 1 (nb ρ1 1) (cL (cU 0) 64)))]) (jE [[],[1],[]]) (fun _=>aF (aC ?_))
  exact mR (v:=(.tuple #[U 0,vi 60])) (ps:=[1,1,1,1]) (fun _ hS=>⟨by rw [(pub_no (dF hb1)).1,(pub_no (dF hb1)).2],hS.bel⟩)
 rw [hb1]
 refine aG (aA (sS f103 4 [2,3] [0,1] (fun _=>[U x,U (bK 4 x pP),undef,vi 0]) (fun _=>[(2,(bD 1 (nb ρ1 1) (cL (cU (bK 4 x pP)) 64)))]) (cR [[0]]<|cC (fun _ w=>gpower_any x w hx)<|jE [[1],[]]) (fun _=>aF ?_)))
 exact mR (v:=(.tuple #[U (bK 4 x pP),vi 0])) (fun _ hS=>⟨by rw [(lZ (aV hb1)).1,(lZ (aV hb1)).2],hS.bel⟩)
theorem valid_any (p:Nat) (hp:p<M) (w0:World):Calls prog 102 #[U p] w0 (jR (.bool (iY p)) w0):=by
 refine Calls.of_ok (n:=10) (F:=(fun _=>True)) func102 rfl rfl rfl (by simp) jT (sS f102 2 [1,2] [] (fun ρ=>[pt (nb ρ 0),vF]) (fun ρ=>[(0,(nw ρ 0 (cL (cU p) 64)))]) (jE [[],[]]) (fun _=>?_))
 rcases Bool.eq_false_or_eq_true (decide (p=1)) with hb1 | hb1
 ·refine sD f102 [0,0,3,7,15,31,63,127] 8 [2] [0] (fun _=>[U p,U 1,vF,vF,undef,undef,vF,vF]) (fun _=>[]) (cR [[0]]<|cC (fun _ w=>lF 1 w (by decide))<|cB (a:=fun ρ=>(U p)) (b:=fun ρ=>(U 1)) (v:=fun ρ=>vF) .neq 64 (fun _ _=>(neqU p 1 hp (by decide +kernel) _).trans (by rw [hb1];try rfl))<|jE [[],[],[],[],[]]) (fun _=>aF ?_)
  exact mR (v:=vF) (fun _ hS=>⟨jB (val_0 hb1),hS.bel⟩)
 refine sD f102 [0,0,3,7,15,31,63,127] 8 [2] [0] (fun _=>[U p,U 1,vT,vT,U p,.bool (mW p),.bool (mW p),.bool (mW p)]) (fun _=>[]) (cR [[0]]<|cC (fun _ w=>lF 1 w (by decide))<|cB (a:=fun ρ=>(U p)) (b:=fun ρ=>(U 1)) (v:=fun ρ=>vT) .neq 64 (fun _ _=>(neqU p 1 hp (by decide +kernel) _).trans (by rw [hb1];try rfl))<|cR [[],[0]]<|cC (fun _ w=>gmember_any p w hp)<|jE [[],[]]) (fun _=>aF ?_)
 exact mR (v:=(.bool (mW p))) (fun _ hS=>⟨jB (val_1 hb1),hS.bel⟩)
theorem tweak_any (p:Nat) (t:Nat) (hp:p<M) (ht:t<M) (w0:World):Calls prog 160 #[U p,.agg (hB t)] w0 (jR (.tuple #[U (yS p t),vi (wY p t)]) w0):=by
 refine Calls.of_ok (n:=21) (F:=(fun _=>True)) func160 rfl rfl rfl (by simp) jT (sS f160 4 [2,3,4,5] [] (fun ρ=>[pt (nb ρ 0),pt (nb ρ 1),pt (nb ρ 2),vi 0]) (fun ρ=>[(0,(nw ρ 0 (cL (cU p) 64))),(1,(nw ρ 1 (cL (hB t) 57))),(2,(nw ρ 2 (cL (cU 0) 64)))]) (jE [[],[],[],[]]) (fun ρ1=>aB (sS f160 3 [2,3,4,5,9] [] (fun _=>[U p,.bool (iY p),.bool (!(iY p))]) (fun _=>[]) (cR [[0]]<|cC (fun _ w=>valid_any p hp w)<|jE [[]]) (fun _=>oC (!(iY p)) (fun hb1=>?_) (fun hb1=>?_)))))
 ·rw [hb1]
  refine sS f160 3 [2,3,4,5] [] (fun _=>[U 0,undef,vi 60]) (fun _=>[(1,(bD 2 (nb ρ1 2) (cL (cU 0) 64)))]) (jE [[],[2],[]]) (fun _=>aF (aC ?_))
  exact mR (v:=(.tuple #[U 0,vi 60])) (ps:=[2,2,2,2]) (fun _ hS=>⟨by rw [(tw_a (dF hb1)).1,(tw_a (dF hb1)).2],hS.bel⟩)
 rw [hb1]
 refine aG (aA (sD f160 [0,0,2,6,15,0,63] 7 [4,5,6] [0,0,1,1] (fun ρ=>[U p,.agg (hB t),U (bC t 0 qP),U (bK 4 (bC t 0 qP) pP),U (bV p (bK 4 (bC t 0 qP) pP) pP),pt (nb ρ 5),undef]) (fun ρ=>[(5,(nw ρ 5 (cL (cU 0) 64))),(6,(bD 43 (nb ρ 5) (cL (cU (bV p (bK 4 (bC t 0 qP) pP) pP)) 64)))]) (cR [[0],[1]]<|cC (fun _ w=>gscalar_any t w ht)<|cC (f:=134) (args:=fun ρ=> #[U (bC t 0 qP)]) (v:=fun ρ=>(U (bK 4 (bC t 0 qP) pP))) (fun _ w=>(fun w=>gpower_any (bC t 0 qP) w (qI _ _ sW)) w)<|cC (f:=174) (args:=fun ρ=> #[U p,U (bK 4 (bC t 0 qP) pP)]) (v:=fun ρ=>(U (bV p (bK 4 (bC t 0 qP) pP) pP))) (fun _ w=>(fun w=>gmul_any p (bK 4 (bC t 0 qP) pP) w hp (vZ _ _ oV)) w)<|jE [[],[43]]) (fun _=>aB (sD f160 [0,0,3] 3 [4,5,6,18] [] (fun _=>[U (bV p (bK 4 (bC t 0 qP) pP) pP),U 1,.bool (decide (bV p (bK 4 (bC t 0 qP) pP) pP=1))]) (fun _=>[]) (cR [[1]]<|cC (fun _ w=>lF 1 w (by decide))<|cB (a:=fun ρ=>(U (bV p (bK 4 (bC t 0 qP) pP) pP))) (b:=fun ρ=>(U 1)) (v:=fun ρ=>(.bool (decide (bV p (bK 4 (bC t 0 qP) pP) pP=1)))) .eql 64 (fun _ _=>eqlU (bV p (bK 4 (bC t 0 qP) pP) pP) 1 (wE _ _ oV) (by decide +kernel) _)<|cN) (fun _=>oC (decide (bV p (bK 4 (bC t 0 qP) pP) pP=1)) (fun hb2=>?_) (fun hb2=>?_))))))
 ·rw [hb2]
  refine sS f160 3 [4,5,6] [] (fun _=>[U 0,undef,vi 5]) (fun _=>[(1,(bD 0 (nb ρ1 2) (cL (cU 0) 64)))]) (jE [[],[0],[]]) (fun _=>aF (aC ?_))
  exact mR (v:=(.tuple #[U 0,vi 5])) (fun _ hS=>⟨by rw [(tw_b (t:=t) (aV hb1) (yT hb2)).1,(tw_b (t:=t) (aV hb1) (yT hb2)).2],hS.bel⟩)
 rw [hb2]
 refine aG (aA (sS f160 3 [4,5] [1,0] (fun _=>[U (bV p (bK 4 (bC t 0 qP) pP) pP),undef,vi 0]) (fun _=>[(1,(bD 0 (nb ρ1 2) (cL (cU (bV p (bK 4 (bC t 0 qP) pP) pP)) 64)))]) (jE [[1],[0],[]]) (fun _=>aF ?_)))
 exact mR (v:=(.tuple #[U (bV p (bK 4 (bC t 0 qP) pP) pP),vi 0])) (fun _ hS=>⟨by rw [(tw_c (t:=t) (aV hb1) (yF hb2)).1,(tw_c (t:=t) (aV hb1) (yF hb2)).2];rfl,hS.bel⟩)
theorem uQ (x:Nat) (t:Nat) (hx:x<M) (ht:t<M) (w0:World):Calls prog 159 #[U x,.agg (hB t)] w0 (jR (.tuple #[U (fO x t),vi (nY x t)]) w0):=by
 refine Calls.of_ok (n:=20) (F:=(fun _=>True)) func159 rfl rfl rfl (by simp) jT (sS f159 4 [2,3,4,5] [] (fun ρ=>[pt (nb ρ 0),pt (nb ρ 1),pt (nb ρ 2),vi 0]) (fun ρ=>[(0,(nw ρ 0 (cL (cU x) 64))),(1,(nw ρ 1 (cL (hB t) 57))),(2,(nw ρ 2 (cL (cU 0) 64)))]) (jE [[],[],[],[]]) (fun ρ1=>aB (sS f159 3 [2,3,4,5,9] [] (fun _=>[U x,.bool (iM x),.bool (!(iM x))]) (fun _=>[]) (cR [[0]]<|cC (fun _ w=>secret_any x hx w)<|jE [[]]) (fun _=>oC (!(iM x)) (fun hb1=>?_) (fun hb1=>?_)))))
 ·rw [hb1]
  refine sS f159 3 [2,3,4,5] [] (fun _=>[U 0,undef,vi 60]) (fun _=>[(1,(bD 2 (nb ρ1 2) (cL (cU 0) 64)))]) (jE [[],[2],[]]) (fun _=>aF (aC ?_))
  exact mR (v:=(.tuple #[U 0,vi 60])) (ps:=[2,2,2,2]) (fun _ hS=>⟨by rw [(ts_a (dF hb1)).1,(ts_a (dF hb1)).2],hS.bel⟩)
 rw [hb1]
 refine aG (aA (sD f159 [0,0,2,7,0,31] 6 [4,5,6] [0,0,1,1] (fun ρ=>[U x,.agg (hB t),U (bC t 0 qP),U (bC x (bC t 0 qP) qP),pt (nb ρ 4),undef]) (fun ρ=>[(4,(nw ρ 4 (cL (cU 0) 64))),(5,(bD 35 (nb ρ 4) (cL (cU (bC x (bC t 0 qP) qP)) 64)))]) (cR [[0],[1]]<|cC (fun _ w=>gscalar_any t w ht)<|cC (f:=180) (args:=fun ρ=> #[U x,U (bC t 0 qP)]) (v:=fun ρ=>(U (bC x (bC t 0 qP) qP))) (fun _ w=>(fun w=>wH x (bC t 0 qP) w hx (qI _ _ sW)) w)<|jE [[],[35]]) (fun _=>aB (sS f159 3 [4,5,6,17] [] (fun _=>[U (bC x (bC t 0 qP) qP),U 0,.bool (decide (bC x (bC t 0 qP) qP=0))]) (fun _=>[]) (cR [[1],[]]<|cB (a:=fun ρ=>(U (bC x (bC t 0 qP) qP))) (b:=fun ρ=>(U 0)) (v:=fun ρ=>(.bool (decide (bC x (bC t 0 qP) qP=0)))) .eql 64 (fun _ _=>eqlU (bC x (bC t 0 qP) qP) 0 (qI _ _ sW) (by decide +kernel) _)<|cN) (fun _=>oC (decide (bC x (bC t 0 qP) qP=0)) (fun hb2=>?_) (fun hb2=>?_))))))
 ·rw [hb2]
  refine sS f159 3 [4,5,6] [] (fun _=>[U 0,undef,vi 5]) (fun _=>[(1,(bD 0 (nb ρ1 2) (cL (cU 0) 64)))]) (jE [[],[0],[]]) (fun _=>aF (aC ?_))
  exact mR (v:=(.tuple #[U 0,vi 5])) (fun _ hS=>⟨by rw [(ts_b (t:=t) (aV hb1) (yT hb2)).1,(ts_b (t:=t) (aV hb1) (yT hb2)).2],hS.bel⟩)
 rw [hb2]
 refine aG (aA (sS f159 3 [4,5] [1,0] (fun _=>[U (bC x (bC t 0 qP) qP),undef,vi 0]) (fun _=>[(1,(bD 0 (nb ρ1 2) (cL (cU (bC x (bC t 0 qP) qP)) 64)))]) (jE [[1],[0],[]]) (fun _=>aF ?_)))
 exact mR (v:=(.tuple #[U (bC x (bC t 0 qP) qP),vi 0])) (fun _ hS=>⟨by rw [(ts_c (t:=t) (aV hb1) (yF hb2)).1,(ts_c (t:=t) (aV hb1) (yF hb2)).2];rfl,hS.bel⟩)
theorem rE (x:Nat) (hx:x<M) (w0:World):Calls prog 101 #[U x] w0 (jR (.tuple #[U (dK x),vi (iW x)]) w0):=by
 refine Calls.of_ok (n:=10) (F:=(fun _=>True)) func101 rfl rfl rfl (by simp) jT (sS f101 3 [1,2,3] [] (fun ρ=>[pt (nb ρ 0),pt (nb ρ 1),vi 0]) (fun ρ=>[(0,(nw ρ 0 (cL (cU x) 64))),(1,(nw ρ 1 (cL (cU 0) 64)))]) (jE [[],[],[]]) (fun ρ1=>aB (sS f101 3 [1,2,3,6] [] (fun _=>[U x,.bool (iM x),.bool (!(iM x))]) (fun _=>[]) (cR [[0]]<|cC (fun _ w=>rsecret_any x hx w)<|jE [[]]) (fun _=>oC (!(iM x)) (fun hb1=>?_) (fun hb1=>?_)))))
 ·rw [hb1]
  refine sS f101 3 [1,2,3] [] (fun _=>[U 0,undef,vi 60]) (fun _=>[(1,(bD 1 (nb ρ1 1) (cL (cU 0) 64)))]) (jE [[],[1],[]]) (fun _=>aF (aC ?_))
  exact mR (v:=(.tuple #[U 0,vi 60])) (ps:=[1,1,1,1]) (fun _ hS=>⟨by rw [(pub_no (dF hb1)).1,(pub_no (dF hb1)).2],hS.bel⟩)
 rw [hb1]
 refine aG (aA (sS f101 4 [2,3] [0,1] (fun _=>[U x,U (bK 4 x pP),undef,vi 0]) (fun _=>[(2,(bD 1 (nb ρ1 1) (cL (cU (bK 4 x pP)) 64)))]) (cR [[0]]<|cC (fun _ w=>rgpower_any x w hx)<|jE [[1],[]]) (fun _=>aF ?_)))
 exact mR (v:=(.tuple #[U (bK 4 x pP),vi 0])) (fun _ hS=>⟨by rw [(lZ (aV hb1)).1,(lZ (aV hb1)).2],hS.bel⟩)
theorem rvalid_any (p:Nat) (hp:p<M) (w0:World):Calls prog 112 #[U p] w0 (jR (.bool (iY p)) w0):=by
 refine Calls.of_ok (n:=10) (F:=(fun _=>True)) func112 rfl rfl rfl (by simp) jT (sS f112 2 [1,2] [] (fun ρ=>[pt (nb ρ 0),vF]) (fun ρ=>[(0,(nw ρ 0 (cL (cU p) 64)))]) (jE [[],[]]) (fun _=>?_))
 rcases Bool.eq_false_or_eq_true (decide (p=1)) with hb1 | hb1
 ·refine sD f112 [0,0,3,7,15,31,63,127] 8 [2] [0] (fun _=>[U p,U 1,vF,vF,undef,undef,vF,vF]) (fun _=>[]) (cR [[0]]<|cC (fun _ w=>iE 1 w (by decide))<|cB (a:=fun ρ=>(U p)) (b:=fun ρ=>(U 1)) (v:=fun ρ=>vF) .neq 64 (fun _ _=>(neqU p 1 hp (by decide +kernel) _).trans (by rw [hb1];try rfl))<|jE [[],[],[],[],[]]) (fun _=>aF ?_)
  exact mR (v:=vF) (fun _ hS=>⟨jB (val_0 hb1),hS.bel⟩)
 refine sD f112 [0,0,3,7,15,31,63,127] 8 [2] [0] (fun _=>[U p,U 1,vT,vT,U p,.bool (mW p),.bool (mW p),.bool (mW p)]) (fun _=>[]) (cR [[0]]<|cC (fun _ w=>iE 1 w (by decide))<|cB (a:=fun ρ=>(U p)) (b:=fun ρ=>(U 1)) (v:=fun ρ=>vT) .neq 64 (fun _ _=>(neqU p 1 hp (by decide +kernel) _).trans (by rw [hb1];try rfl))<|cR [[],[0]]<|cC (fun _ w=>rgmember_any p w hp)<|jE [[],[]]) (fun _=>aF ?_)
 exact mR (v:=(.bool (mW p))) (fun _ hS=>⟨jB (val_1 hb1),hS.bel⟩)
theorem rtweak_any (p:Nat) (t:Nat) (hp:p<M) (ht:t<M) (w0:World):Calls prog 119 #[U p,.agg (hB t)] w0 (jR (.tuple #[U (yS p t),vi (wY p t)]) w0):=by
 refine Calls.of_ok (n:=21) (F:=(fun _=>True)) func119 rfl rfl rfl (by simp) jT (sS f119 4 [2,3,4,5] [] (fun ρ=>[pt (nb ρ 0),pt (nb ρ 1),pt (nb ρ 2),vi 0]) (fun ρ=>[(0,(nw ρ 0 (cL (cU p) 64))),(1,(nw ρ 1 (cL (hB t) 57))),(2,(nw ρ 2 (cL (cU 0) 64)))]) (jE [[],[],[],[]]) (fun ρ1=>aB (sS f119 3 [2,3,4,5,9] [] (fun _=>[U p,.bool (iY p),.bool (!(iY p))]) (fun _=>[]) (cR [[0]]<|cC (fun _ w=>rvalid_any p hp w)<|jE [[]]) (fun _=>oC (!(iY p)) (fun hb1=>?_) (fun hb1=>?_)))))
 ·rw [hb1]
  refine sS f119 3 [2,3,4,5] [] (fun _=>[U 0,undef,vi 60]) (fun _=>[(1,(bD 2 (nb ρ1 2) (cL (cU 0) 64)))]) (jE [[],[2],[]]) (fun _=>aF (aC ?_))
  exact mR (v:=(.tuple #[U 0,vi 60])) (ps:=[2,2,2,2]) (fun _ hS=>⟨by rw [(tw_a (dF hb1)).1,(tw_a (dF hb1)).2],hS.bel⟩)
 rw [hb1]
 refine aG (aA (sD f119 [0,0,2,6,15,0,63] 7 [4,5,6] [0,0,1,1] (fun ρ=>[U p,.agg (hB t),U (bC t 0 qP),U (bK 4 (bC t 0 qP) pP),U (bV p (bK 4 (bC t 0 qP) pP) pP),pt (nb ρ 5),undef]) (fun ρ=>[(5,(nw ρ 5 (cL (cU 0) 64))),(6,(bD 43 (nb ρ 5) (cL (cU (bV p (bK 4 (bC t 0 qP) pP) pP)) 64)))]) (cR [[0],[1]]<|cC (fun _ w=>zA t w ht)<|cC (f:=130) (args:=fun ρ=> #[U (bC t 0 qP)]) (v:=fun ρ=>(U (bK 4 (bC t 0 qP) pP))) (fun _ w=>(fun w=>rgpower_any (bC t 0 qP) w (qI _ _ sW)) w)<|cC (f:=146) (args:=fun ρ=> #[U p,U (bK 4 (bC t 0 qP) pP)]) (v:=fun ρ=>(U (bV p (bK 4 (bC t 0 qP) pP) pP))) (fun _ w=>(fun w=>rgmul_any p (bK 4 (bC t 0 qP) pP) w hp (vZ _ _ oV)) w)<|jE [[],[43]]) (fun _=>aB (sD f119 [0,0,3] 3 [4,5,6,18] [] (fun _=>[U (bV p (bK 4 (bC t 0 qP) pP) pP),U 1,.bool (decide (bV p (bK 4 (bC t 0 qP) pP) pP=1))]) (fun _=>[]) (cR [[1]]<|cC (fun _ w=>iE 1 w (by decide))<|cB (a:=fun ρ=>(U (bV p (bK 4 (bC t 0 qP) pP) pP))) (b:=fun ρ=>(U 1)) (v:=fun ρ=>(.bool (decide (bV p (bK 4 (bC t 0 qP) pP) pP=1)))) .eql 64 (fun _ _=>eqlU (bV p (bK 4 (bC t 0 qP) pP) pP) 1 (wE _ _ oV) (by decide +kernel) _)<|cN) (fun _=>oC (decide (bV p (bK 4 (bC t 0 qP) pP) pP=1)) (fun hb2=>?_) (fun hb2=>?_))))))
 ·rw [hb2]
  refine sS f119 3 [4,5,6] [] (fun _=>[U 0,undef,vi 5]) (fun _=>[(1,(bD 0 (nb ρ1 2) (cL (cU 0) 64)))]) (jE [[],[0],[]]) (fun _=>aF (aC ?_))
  exact mR (v:=(.tuple #[U 0,vi 5])) (fun _ hS=>⟨by rw [(tw_b (t:=t) (aV hb1) (yT hb2)).1,(tw_b (t:=t) (aV hb1) (yT hb2)).2],hS.bel⟩)
 rw [hb2]
 refine aG (aA (sS f119 3 [4,5] [1,0] (fun _=>[U (bV p (bK 4 (bC t 0 qP) pP) pP),undef,vi 0]) (fun _=>[(1,(bD 0 (nb ρ1 2) (cL (cU (bV p (bK 4 (bC t 0 qP) pP) pP)) 64)))]) (jE [[1],[0],[]]) (fun _=>aF ?_)))
 exact mR (v:=(.tuple #[U (bV p (bK 4 (bC t 0 qP) pP) pP),vi 0])) (fun _ hS=>⟨by rw [(tw_c (t:=t) (aV hb1) (yF hb2)).1,(tw_c (t:=t) (aV hb1) (yF hb2)).2];rfl,hS.bel⟩)
theorem sJ (x:Nat) (t:Nat) (hx:x<M) (ht:t<M) (w0:World):Calls prog 118 #[U x,.agg (hB t)] w0 (jR (.tuple #[U (fO x t),vi (nY x t)]) w0):=by
 refine Calls.of_ok (n:=19) (F:=(fun _=>True)) func118 rfl rfl rfl (by simp) jT (sS f118 4 [2,3,4,5] [] (fun ρ=>[pt (nb ρ 0),pt (nb ρ 1),pt (nb ρ 2),vi 0]) (fun ρ=>[(0,(nw ρ 0 (cL (cU x) 64))),(1,(nw ρ 1 (cL (hB t) 57))),(2,(nw ρ 2 (cL (cU 0) 64)))]) (jE [[],[],[],[]]) (fun ρ1=>aB (sS f118 3 [2,3,4,5,9] [] (fun _=>[U x,.bool (iM x),.bool (!(iM x))]) (fun _=>[]) (cR [[0]]<|cC (fun _ w=>rsecret_any x hx w)<|jE [[]]) (fun _=>oC (!(iM x)) (fun hb1=>?_) (fun hb1=>?_)))))
 ·rw [hb1]
  refine sS f118 3 [2,3,4,5] [] (fun _=>[U 0,undef,vi 60]) (fun _=>[(1,(bD 2 (nb ρ1 2) (cL (cU 0) 64)))]) (jE [[],[2],[]]) (fun _=>aF (aC ?_))
  exact mR (v:=(.tuple #[U 0,vi 60])) (ps:=[2,2,2,2]) (fun _ hS=>⟨by rw [(ts_a (dF hb1)).1,(ts_a (dF hb1)).2],hS.bel⟩)
 rw [hb1]
 refine aG (aA (sD f118 [0,0,2,7,0,31] 6 [4,5,6] [0,0,1,1] (fun ρ=>[U x,.agg (hB t),U (bC t 0 qP),U (bC x (bC t 0 qP) qP),pt (nb ρ 4),undef]) (fun ρ=>[(4,(nw ρ 4 (cL (cU 0) 64))),(5,(bD 35 (nb ρ 4) (cL (cU (bC x (bC t 0 qP) qP)) 64)))]) (cR [[0],[1]]<|cC (fun _ w=>zA t w ht)<|cC (f:=144) (args:=fun ρ=> #[U x,U (bC t 0 qP)]) (v:=fun ρ=>(U (bC x (bC t 0 qP) qP))) (fun _ w=>(fun w=>uP x (bC t 0 qP) w hx (qI _ _ sW)) w)<|jE [[],[35]]) (fun _=>aB (sS f118 2 [4,5,6,16] [] (fun _=>[U (bC x (bC t 0 qP) qP),.bool (decide (bC x (bC t 0 qP) qP=0))]) (fun _=>[]) (cR [[1]]<|cC (f:=83) (args:=fun ρ=> #[U (bC x (bC t 0 qP) qP)]) (v:=fun ρ=>(.bool (decide (bC x (bC t 0 qP) qP=0)))) (fun _ w=>(fun w=>iI (bC x (bC t 0 qP) qP) w (qI _ _ sW)) w)<|cN) (fun _=>oC (decide (bC x (bC t 0 qP) qP=0)) (fun hb2=>?_) (fun hb2=>?_))))))
 ·rw [hb2]
  refine sS f118 3 [4,5,6] [] (fun _=>[U 0,undef,vi 5]) (fun _=>[(1,(bD 0 (nb ρ1 2) (cL (cU 0) 64)))]) (jE [[],[0],[]]) (fun _=>aF (aC ?_))
  exact mR (v:=(.tuple #[U 0,vi 5])) (fun _ hS=>⟨by rw [(ts_b (t:=t) (aV hb1) (yT hb2)).1,(ts_b (t:=t) (aV hb1) (yT hb2)).2],hS.bel⟩)
 rw [hb2]
 refine aG (aA (sS f118 3 [4,5] [1,0] (fun _=>[U (bC x (bC t 0 qP) qP),undef,vi 0]) (fun _=>[(1,(bD 0 (nb ρ1 2) (cL (cU (bC x (bC t 0 qP) qP)) 64)))]) (jE [[1],[0],[]]) (fun _=>aF ?_)))
 exact mR (v:=(.tuple #[U (bC x (bC t 0 qP) qP),vi 0])) (fun _ hS=>⟨by rw [(ts_c (t:=t) (aV hb1) (yF hb2)).1,(ts_c (t:=t) (aV hb1) (yF hb2)).2];rfl,hS.bel⟩)
def aggD:TypeDesc→Bool
 | .struct _=>true
 | .array _ _=>true
 | _=>false
def xAZ (P:Program) (t:TypeId) (cs:Array Value) (off:Nat):Option Value :=
 match P.info? t,P.underlying t with
 | some i,some d=>if aggD d then some (.agg (cs.extract off (off+i.size))) else cs[off]?
 | _,_=>none
def eqStep (f:Value→Value→Option (List (Int × Int))) (a b:Option Value):Option (List (Int × Int)) :=
 match a,b with
 | some a,some b=>f a b
 | _,_=>none
def eqF (P : Program) : Nat → TypeId → Value → Value → Option (List (Int × Int))
 | 0,_,_,_=>none
 | d + 1, t, x, y => match P.underlying t, x, y with
   | some (.int _),.int k a,.int k' b=>if k=k' then some [(a,b)] else none
   | some (.array n e),.agg xs,.agg ys=>if (P.info? e).isSome then ((List.range n).mapM fun i=>eqStep (eqF P d e) (xAZ P e xs (i*P.cellsOf e)) (xAZ P e ys (i*P.cellsOf e))).map List.flatten else none
   | some (.struct fs),.agg xs,.agg ys=>if P.stoodInHeld t then none else (fs.toList.mapM fun f=>if f.name≠ "_" then eqStep (eqF P d f.type) (xAZ P f.type xs f.offset) (xAZ P f.type ys f.offset) else none).map List.flatten
   | _,_,_=>none
def eqB (l:List (Int × Int)):Bool:=l.all fun p=>p.1==p.2
theorem eqB_app (a b:List (Int × Int)):eqB (a++b)=(eqB a&&eqB b):=by simp [eqB]
section
variable {P : Program}
theorem xAV {t : TypeId} {cs : Array Value} {off : Nat} {v : Value} (h : xAZ P t cs off = some v) (w : World) : (part t cs off).run P w = .ok v w := by
 unfold xAZ at h
 cases hi:P.info? t with
 | none=>rw [hi] at h;simp at h
 | some i =>
   cases hk:P.underlying t with
   | none=>rw [hi,hk] at h;simp at h
   | some d =>
     rw [hi,hk] at h
     simp only at h
     have hag:(isAgg t).run P w=.ok (aggD d) w:=by
      unfold isAgg
      rw [Sem.run_bind,run_underlying hk w]
      cases d<;>simp [aggD]
     have hsz:(sizeOf t).run P w=.ok i.size w:=by simp [sizeOf,typeInfo,hi]
     unfold part
     rw [Sem.run_bind,hag]
     simp only [Result.andThen_ok]
     split at h
     ·rename_i hb
      rw [hb]
      simp only [if_true,Sem.run_bind,hsz,Result.andThen_ok,Sem.run_pure]
      rw [Option.some.inj h]
     ·rename_i hb
      simp only [hb,Bool.false_eq_true,if_false,h,Sem.run_pure]
theorem items_eq {d c:Nat} {e:TypeId} {xs ys:Array Value} (ih:∀ x y l w,eqF P d e x y=some l→(Op.equalIn d e x y).run P w=.ok (eqB l) w):∀ (is:List Nat) (ls:List (List (Int × Int))) (w:World),
 is.mapM (fun i=>eqStep (eqF P d e) (xAZ P e xs (i*c)) (xAZ P e ys (i*c)))=some ls→(Op.eqItems d e c xs ys is).run P w=.ok (eqB ls.flatten) w
 | [], ls, w, h => by
   simp at h
   subst h
   simp [Op.eqItems,eqB]
 | i :: is, ls, w, h => by
   rw [List.mapM_cons] at h
   simp only [bind,Option.bind_eq_some_iff,pure,Option.some.injEq] at h
   obtain ⟨l1,h1,ls',h2,rfl⟩:=h
   unfold eqStep at h1
   split at h1
   ·rename_i a b ha hb
    have h3:=items_eq (c:=c) (xs:=xs) (ys:=ys) ih is ls' w h2
    simp only [Op.eqItems,Sem.run_bind,xAV ha,xAV hb,Result.andThen_ok,ih a b l1 w h1]
    cases hq:eqB l1
    ·simp [List.flatten_cons,eqB_app,hq]
    ·simp [List.flatten_cons,eqB_app,hq,h3]
   ·exact absurd h1 (by simp)
theorem fields_eq {d : Nat} {xs ys : Array Value} (ih : ∀ t x y l w, eqF P d t x y = some l → (Op.equalIn d t x y).run P w = .ok (eqB l) w) : ∀ (fs : List Field) (ls : List (List (Int × Int))) (w : World),
 fs.mapM (fun f=>if f.name≠ "_" then eqStep (eqF P d f.type) (xAZ P f.type xs f.offset) (xAZ P f.type ys f.offset) else none)=some ls→(Op.eqFields d xs ys fs).run P w=.ok (eqB ls.flatten) w
 | [], ls, w, h => by
   simp at h
   subst h
   simp [Op.eqFields,eqB]
 | f :: fs, ls, w, h => by
   rw [List.mapM_cons] at h
   simp only [bind,Option.bind_eq_some_iff,pure,Option.some.injEq] at h
   obtain ⟨l1,h1,ls',h2,rfl⟩:=h
   split at h1
   ·rename_i hn
    unfold eqStep at h1
    split at h1
    ·rename_i a b ha hb
     have h3:=fields_eq (xs:=xs) (ys:=ys) ih fs ls' w h2
     simp only [Op.eqFields,hn,ne_eq,not_false_eq_true,if_true,Sem.run_bind,xAV ha,xAV hb,Result.andThen_ok,ih f.type a b l1 w h1]
     cases hq:eqB l1
     ·simp [List.flatten_cons,eqB_app,hq]
     ·simp [List.flatten_cons,eqB_app,hq,h3]
    ·exact absurd h1 (by simp)
   ·exact absurd h1 (by simp)
theorem run_eqF : ∀ (d : Nat) (t : TypeId) (x y : Value) (l : List (Int × Int)) (w : World), eqF P d t x y = some l → (Op.equalIn d t x y).run P w = .ok (eqB l) w
 | 0,_,_,_,_,_,h=>by simp [eqF] at h
 | d + 1, t, x, y, l, w, h => by
   unfold eqF at h
   split at h
   ·rename_i hu
    split at h
    ·rename_i hk
     subst hk
     simp only [Option.some.injEq] at h
     subst h
     simp [Op.equalIn,run_underlying hu,eqB]
    ·exact absurd h (by simp)
   ·rename_i n e xs ys hu
    split at h
    ·rename_i hi
     obtain ⟨i,hi⟩:=Option.isSome_iff_exists.1 hi
     rw [Option.map_eq_some_iff] at h
     obtain ⟨ls,h1,rfl⟩:=h
     rw [run_equalIn_array w d xs ys hu hi]
     exact items_eq (fun x y l w=>run_eqF d e x y l w) _ ls w h1
    ·exact absurd h (by simp)
   ·rename_i fs xs ys hu
    split at h
    ·exact absurd h (by simp)
    ·rename_i hp
     rw [Option.map_eq_some_iff] at h
     obtain ⟨ls,h1,rfl⟩:=h
     have hfs:P.fieldsOf t=fs:=by unfold Program.fieldsOf;rw [hu]
     rw [run_equalIn_struct w d t xs ys (by rw [hfs];exact hu) (by simpa using hp),hfs]
     exact fields_eq (fun t x y l w=>run_eqF d t x y l w) _ ls w h1
   ·exact absurd h (by simp)
def eqT (P:Program) (t:TypeId) (x y:Value):Option (List (Int × Int)):=eqF P 10000 t x y
theorem neq_any {t:TypeId} {x y:Array Value} {l:List (Int × Int)} (h:eqT P t (.agg x) (.agg y)=some l) (w:World):(binOp .neq t (.agg x) (.agg y)).run P w=.ok (.bool (!eqB l)) w:=by
 have h1:=run_eqF 10000 t (.agg x) (.agg y) l w h
 simp only [binOp]
 simp [Op.equal,Op.maxDepth,h1]
theorem eqB_same:∀ {l:List (Int × Int)},l.map (·.1)=l.map (·.2)→eqB l=true
 | [],_=>rfl
 | p :: l, h => by
   simp only [List.map_cons,List.cons.injEq] at h
   have:=eqB_same h.2
   unfold eqB at this ⊢
   simp only [List.all_cons,this,Bool.and_true,beq_iff_eq]
   exact h.1
theorem same_get {t:TypeId} {x y:Value} (h:(eqT P t x y).map (fun l=>l.map (·.1))=some (((eqT P t x y).map fun l=>l.map (·.2)).getD [])):∃ l,eqT P t x y=some l∧eqB l=true:=by
 rw [Option.map_eq_some_iff] at h
 obtain ⟨l,h1,h2⟩:=h
 rw [h1] at h2
 exact ⟨l,h1,eqB_same h2⟩
theorem neq_same {t:TypeId} {x y:Array Value} (w:World) (h:(eqT P t (.agg x) (.agg y)).map (fun l=>l.map (·.1))=some (((eqT P t (.agg x) (.agg y)).map fun l=>l.map (·.2)).getD []):=by kernel_rfl):(binOp .neq t (.agg x) (.agg y)).run P w=.ok (.bool false) w:=by
 obtain ⟨l,h1,h2⟩:=same_get h
 rw [neq_any h1,h2];rfl
theorem neq_eq {t:TypeId} {x y:Array Value} (e:x=y) (w:World) (h:(eqT P t (.agg x) (.agg x)).map (fun l=>l.map (·.1))=some (((eqT P t (.agg x) (.agg x)).map fun l=>l.map (·.2)).getD []):=by kernel_rfl):(binOp .neq t (.agg x) (.agg y)).run P w=.ok (.bool false) w:=by
 subst e;exact neq_same w h
end
theorem yN (k:Ky) (hk:k.Ok) (w0:World):Calls prog 76 #[.agg (kY k)] w0 (jR (.bool (fC k)) w0):=by
 refine Calls.of_ok (n:=37) (F:=(fun _=>True)) func76 rfl rfl rfl (by simp) jT (sS f76 2 [1,2] [] (fun ρ=>[pt (nb ρ 0),vF]) (fun ρ=>[(0,(nw ρ 0 (cL (kY k) 66)))]) (jE [[],[]]) (fun ρ1=>aB ?_))
 rcases Bool.eq_false_or_eq_true (decide (k.d<0)) with hb1 | hb1
 ·refine sS f76 14 [1,2,18] [] (fun _=>[jp (nb ρ1 0) 40,vi k.d,vT,vT,undef,undef,undef,vT,vT,undef,undef,undef,undef,vT]) (fun _=>[]) (cR [[],[0]]<|cA (fun _=>vT) (fun _=>congrArg Value.bool hb1)<|jE [[],[],[],[],[],[],[],[],[],[],[]]) (fun _=>oY (jJ f76 1 [1,2] [vF] (aF (aC ?_))))
  exact mR (v:=vF) (fun _ hS=>⟨jB (snd_end1 hb1),hS.bel⟩)
 rcases Bool.eq_false_or_eq_true (decide (8<k.d)) with hb2 | hb2
 ·refine sS f76 14 [1,2,18] [] (fun _=>[jp (nb ρ1 0) 40,vi k.d,vF,vF,jp (nb ρ1 0) 40,vi k.d,vT,vT,vT,undef,undef,undef,undef,vT]) (fun _=>[]) (cR [[],[0]]<|cA (fun _=>vF) (fun _=>congrArg Value.bool hb1)<|cR [[],[],[0]]<|cA (fun _=>vT) (fun _=>congrArg Value.bool hb2)<|jE [[],[],[],[],[],[],[]]) (fun _=>oY (jJ f76 1 [1,2] [vF] (aF (aC ?_))))
  exact mR (v:=vF) (fun _ hS=>⟨jB (snd_end2 hb1 hb2),hS.bel⟩)
 refine sS f76 14 [1,2,18] [] (fun _=>[jp (nb ρ1 0) 40,vi k.d,vF,vF,jp (nb ρ1 0) 40,vi k.d,vF,vF,vF,jp (nb ρ1 0) 4,U k.p,.bool (iY k.p),.bool (!(iY k.p)),.bool (!(iY k.p))]) (fun _=>[]) (cR [[],[0]]<|cA (fun _=>vF) (fun _=>congrArg Value.bool hb1)<|cR [[],[],[0]]<|cA (fun _=>vF) (fun _=>congrArg Value.bool hb2)<|cR [[],[],[],[0]]<|cC (fun _ w=>valid_any k.p hk.p w)<|jE [[],[]]) (fun _=>oC (!(iY k.p)) (fun hb3=>?_) (fun hb3=>?_))
 ·rw [hb3]
  refine jJ f76 1 [1,2] [vF] (aF (aC ?_))
  exact mR (v:=vF) (fun _ hS=>⟨jB (snd_end3 hb1 hb2 (dF hb3)),hS.bel⟩)
 rw [hb3]
 refine aG (aA (aB (sS f76 4 [1,2,22] [] (fun _=>[pt (nb ρ1 0),U k.s,U 0,.bool (decide (k.s=0))]) (fun _=>[]) (cR [[],[0],[]]<|cB (a:=fun ρ=>(U k.s)) (b:=fun ρ=>(U 0)) (v:=fun ρ=>(.bool (decide (k.s=0)))) .eql 64 (fun _ _=>eqlU k.s 0 hk.s (by decide +kernel) _)<|cN) (fun _=>oC (decide (k.s=0)) (fun hb4=>?_) (fun hb4=>?_)))))
 ·rw [hb4]
  refine jJ f76 1 [1,2] [vT] (aF (aC ?_))
  exact mR (v:=vT) (fun _ hS=>⟨jB (snd_ok4 hb1 hb2 (aV hb3) hb4),hS.bel⟩)
 rw [hb4]
 refine aG (aA (sS f76 9 [1,2,3,4] [] (fun ρ=>[pt (nb ρ1 0),U k.s,.tuple #[U (dK k.s),vi (iW k.s)],.tuple #[U (dK k.s),vi (iW k.s)],U (dK k.s),vi (iW k.s),pt (nb ρ 6),undef,vi (iW k.s)]) (fun ρ=>[(6,(nw ρ 6 (cL (cU 0) 64))),(7,(bD 49 (nb ρ 6) (cL (cU (dK k.s)) 64)))]) (cR [[],[0]]<|cC (fun _ w=>yD k.s hk.s w)<|jE [[],[],[],[],[49],[]]) (fun _=>?_)))
 rcases Bool.eq_false_or_eq_true ((iW k.s)==0) with hb5 | hb5
 ·refine sS f76 9 [2] [0,0] (fun _=>let qa:Value:=.bool (decide (dK k.s=k.p));[vi (iW k.s),vT,vT,U (dK k.s),jp (nb ρ1 0) 4,U k.p,qa,qa,qa]) (fun _=>[]) (cR [[]]<|cA (fun _=>vT) (fun _=>congrArg Value.bool hb5)<|cR [[],[1],[],[0]]<|cB (a:=fun ρ=>(U (dK k.s))) (b:=fun ρ=>(U k.p)) (v:=fun ρ=>(.bool (decide (dK k.s=k.p)))) .eql 64 (fun _ _=>eqlU (dK k.s) k.p (pubV_lt _) hk.p _)<|jE [[],[]]) (fun _=>aF ?_)
  exact mR (v:=(.bool (decide (dK k.s=k.p)))) (fun _ hS=>⟨jB (snd_ok5 hb1 hb2 (aV hb3) hb4 hb5),hS.bel⟩)
 refine sS f76 9 [2] [0,0] (fun _=>[vi (iW k.s),vF,vF,undef,undef,undef,undef,vF,vF]) (fun _=>[]) (cR [[]]<|cA (fun _=>vF) (fun _=>congrArg Value.bool hb5)<|jE [[],[],[],[],[],[],[]]) (fun _=>aF ?_)
 exact mR (v:=vF) (fun _ hS=>⟨jB (snd_end5 hb1 hb2 (aV hb3) hb4 hb5),hS.bel⟩)
theorem oQ (k:Ky) (hk:k.Ok) (w0:World):Calls prog 82 #[.agg (kY k)] w0 (jR (.bool (fC k)) w0):=by
 refine Calls.of_ok (n:=36) (F:=(fun _=>True)) func82 rfl rfl rfl (by simp) jT (sS f82 2 [1,2] [] (fun ρ=>[pt (nb ρ 0),vF]) (fun ρ=>[(0,(nw ρ 0 (cL (kY k) 66)))]) (jE [[],[]]) (fun ρ1=>aB ?_))
 rcases Bool.eq_false_or_eq_true (decide (k.d<0)) with hb1 | hb1
 ·refine sS f82 14 [1,2,18] [] (fun _=>[jp (nb ρ1 0) 40,vi k.d,vT,vT,undef,undef,undef,vT,vT,undef,undef,undef,undef,vT]) (fun _=>[]) (cR [[],[0]]<|cA (fun _=>vT) (fun _=>congrArg Value.bool hb1)<|jE [[],[],[],[],[],[],[],[],[],[],[]]) (fun _=>oY (jJ f82 1 [1,2] [vF] (aF (aC ?_))))
  exact mR (v:=vF) (fun _ hS=>⟨jB (snd_end1 hb1),hS.bel⟩)
 rcases Bool.eq_false_or_eq_true (decide (8<k.d)) with hb2 | hb2
 ·refine sS f82 14 [1,2,18] [] (fun _=>[jp (nb ρ1 0) 40,vi k.d,vF,vF,jp (nb ρ1 0) 40,vi k.d,vT,vT,vT,undef,undef,undef,undef,vT]) (fun _=>[]) (cR [[],[0]]<|cA (fun _=>vF) (fun _=>congrArg Value.bool hb1)<|cR [[],[],[0]]<|cA (fun _=>vT) (fun _=>congrArg Value.bool hb2)<|jE [[],[],[],[],[],[],[]]) (fun _=>oY (jJ f82 1 [1,2] [vF] (aF (aC ?_))))
  exact mR (v:=vF) (fun _ hS=>⟨jB (snd_end2 hb1 hb2),hS.bel⟩)
 refine sS f82 14 [1,2,18] [] (fun _=>[jp (nb ρ1 0) 40,vi k.d,vF,vF,jp (nb ρ1 0) 40,vi k.d,vF,vF,vF,jp (nb ρ1 0) 4,U k.p,.bool (iY k.p),.bool (!(iY k.p)),.bool (!(iY k.p))]) (fun _=>[]) (cR [[],[0]]<|cA (fun _=>vF) (fun _=>congrArg Value.bool hb1)<|cR [[],[],[0]]<|cA (fun _=>vF) (fun _=>congrArg Value.bool hb2)<|cR [[],[],[],[0]]<|cC (fun _ w=>rvalid_any k.p hk.p w)<|jE [[],[]]) (fun _=>oC (!(iY k.p)) (fun hb3=>?_) (fun hb3=>?_))
 ·rw [hb3]
  refine jJ f82 1 [1,2] [vF] (aF (aC ?_))
  exact mR (v:=vF) (fun _ hS=>⟨jB (snd_end3 hb1 hb2 (dF hb3)),hS.bel⟩)
 rw [hb3]
 refine aG (aA (aB (sS f82 3 [1,2,21] [] (fun _=>[pt (nb ρ1 0),U k.s,.bool (decide (k.s=0))]) (fun _=>[]) (cR [[],[0]]<|cC (fun _ w=>iI k.s w hk.s)<|cN) (fun _=>oC (decide (k.s=0)) (fun hb4=>?_) (fun hb4=>?_)))))
 ·rw [hb4]
  refine jJ f82 1 [1,2] [vT] (aF (aC ?_))
  exact mR (v:=vT) (fun _ hS=>⟨jB (snd_ok4 hb1 hb2 (aV hb3) hb4),hS.bel⟩)
 rw [hb4]
 refine aG (aA (sS f82 9 [1,2,3,4] [] (fun ρ=>[pt (nb ρ1 0),U k.s,.tuple #[U (dK k.s),vi (iW k.s)],.tuple #[U (dK k.s),vi (iW k.s)],U (dK k.s),vi (iW k.s),pt (nb ρ 6),undef,vi (iW k.s)]) (fun ρ=>[(6,(nw ρ 6 (cL (cU 0) 64))),(7,(bD 49 (nb ρ 6) (cL (cU (dK k.s)) 64)))]) (cR [[],[0]]<|cC (fun _ w=>rE k.s hk.s w)<|jE [[],[],[],[],[49],[]]) (fun _=>?_)))
 rcases Bool.eq_false_or_eq_true ((iW k.s)==0) with hb5 | hb5
 ·refine sS f82 9 [2] [0,0] (fun _=>let qa:Value:=.bool (decide (dK k.s=k.p));[vi (iW k.s),vT,vT,U (dK k.s),jp (nb ρ1 0) 4,U k.p,qa,qa,qa]) (fun _=>[]) (cR [[]]<|cA (fun _=>vT) (fun _=>congrArg Value.bool hb5)<|cR [[],[1],[],[0]]<|cB (a:=fun ρ=>(U (dK k.s))) (b:=fun ρ=>(U k.p)) (v:=fun ρ=>(.bool (decide (dK k.s=k.p)))) .eql 64 (fun _ _=>eqlU (dK k.s) k.p (pubV_lt _) hk.p _)<|jE [[],[]]) (fun _=>aF ?_)
  exact mR (v:=(.bool (decide (dK k.s=k.p)))) (fun _ hS=>⟨jB (snd_ok5 hb1 hb2 (aV hb3) hb4 hb5),hS.bel⟩)
 refine sS f82 9 [2] [0,0] (fun _=>[vi (iW k.s),vF,vF,undef,undef,undef,undef,vF,vF]) (fun _=>[]) (cR [[]]<|cA (fun _=>vF) (fun _=>congrArg Value.bool hb5)<|jE [[],[],[],[],[],[],[]]) (fun _=>aF ?_)
 exact mR (v:=vF) (fun _ hS=>⟨jB (snd_end5 hb1 hb2 (aV hb3) hb4 hb5),hS.bel⟩)
theorem yK (a:Option Addr) (c:Nat) (ps:List Nat) (hn:a.isNone=true) (w0:World) (hf0:Is w0 .u32 a c (nI ps)):Calls prog 58 #[.slice a (nI ps).length c] w0 (jR vz w0):=by
 refine Calls.of_ok (n:=8) (F:=(fun w=>Is w .u32 a c (nI ps)∧True)) func58 rfl rfl rfl (by simp) (hf0.pers0.and cO) (jJ f58 1 [0,2] [vz] (aB (sS f58 2 [0,2,4] [] (fun _=>[.slice a (nI ps).length c,vT]) (fun _=>[]) (cR [[]]<|cB (a:=fun ρ=>(.slice a (nI ps).length c)) (b:=fun ρ=>vz) (v:=fun ρ=>vT) .eql 67 (fun _ w=>(eql_nil32 a (nI ps).length c w).trans (by rw [show a.isNone=true from hn]))<|cN) (fun _=>oY (jJ f58 1 [0,2] [vz] (aF (aC ?_)))))))
 exact mR (v:=vz) (fun _ hS=>⟨rfl,hS.bel⟩)
theorem yP (a:Option Addr) (c:Nat) (ps:List Nat) (hn:a.isNone=false) (_h8:ps.length≤8) (w0:World) (hf0:Is w0 .u32 a c (nI ps)):Calls prog 58 #[.slice a (nI ps).length c] w0 (fun ε w'=>∃ r:bH,ε=.returned (vs (r.n.headD 0) (nI ps).length (r.n.tail.headD 0))∧jG w0 w'∧w0.heap.size≤r.n.headD 0∧w'.heap[r.n.headD 0]? = some (cL (uG r) 55)∧kI.A (uG r) ps (r.n.tail.headD 0)):=by
 refine Calls.of_ok (n:=8) (F:=(fun w=>Is w .u32 a c (nI ps)∧True)) func58 rfl rfl rfl (by simp) (hf0.pers0.and cO) (jJ f58 1 [0,2] [vz] (aB (sS f58 2 [0,2,4] [] (fun _=>[.slice a (nI ps).length c,vF]) (fun _=>[]) (cR [[]]<|cB (a:=fun ρ=>(.slice a (nI ps).length c)) (b:=fun ρ=>vz) (v:=fun ρ=>vF) .eql 67 (fun _ w=>(eql_nil32 a (nI ps).length c w).trans (by rw [show a.isNone=false from hn]))<|cN) (fun _=>oN (aG (aA (iZ f58 4 [2] [] (fun ρ=>let qa:=vs (nb ρ 2) (nI (([]:List Nat)++ps)).length (aZ ρ 2);[vs (nb ρ 0) 0 0,.slice a (nI ps).length c,qa,qa]) (fun ρ=>[(0,(nw ρ 0 (cL #[] 55))),(2,(bD 0 (nb ρ 2) (cL (oc ρ 2) 55)))]) (fun ρ=>[(2,fun w=>kI.A (oc ρ 2) (([]:List Nat)++ps) (aZ ρ 2))]) (fun _=>(fun w=>Is w .u32 a c (nI ps)∧True)) (fun ρ=>kI.A (oc ρ 2) (([]:List Nat)++ps) (aZ ρ 2)) (fun _ _ hF hf=>⟨hF,hf 2⟩) (cR [[],[]]<|cX (qM 0 (fun ρ _ _ hG hg=>lT (ty:=67) (g:=nb ρ 0) (ts:=([]:List Nat)) (us:=ps) underlying67 (dA (sz:=1) (b:=4) (z:=(.int .u32 0)) (by kernel_rfl) rfl) RowK.A.empty (src_is underlying67 hG.fn.1) (by rw [List.length_nil];omega) (by decide) hg))<|jE [[]]) (fun ρ3 ap3_2=>aF (mD [(2,(vs (nb ρ3 2) (nI (([]:List Nat)++ps)).length (aZ ρ3 2)))] [(nb ρ3 2,(cL (oc ρ3 2) 55))] ?_)))))))))
 exact mR (v:=(vs (nb ρ3 2) (nI (([]:List Nat)++ps)).length (aZ ρ3 2))) (fun _ hS=>⟨{ n:=[nb ρ3 2,aZ ρ3 2],o:=[.cells (oc ρ3 2) 0 (0,0)]},rfl,hS.bel,(hS.newb (.head _)).1,(hS.newb (.head _)).2,ap3_2⟩)
theorem clt1_any (a:Option Addr) (c:Nat) (us:List bW) (hn:a.isNone=false) (_h8:us.length≤8) (w0:World) (hf0:bM w0 a c us):Calls prog 56 #[.slice a us.length c] w0 (fun ε w'=>∃ r:bH,ε=.returned (vs (r.n.headD 0) us.length (r.n.tail.headD 0))∧jG w0 w'∧w0.heap.size≤r.n.headD 0∧w'.heap[r.n.headD 0]? = some (cL (uG r) 60)∧kT.A (uG r) us (r.n.tail.headD 0)):=by
 refine Calls.of_ok (n:=8) (F:=(fun w=>bM w a c us∧True)) func56 rfl rfl rfl (by simp) (hf0.pers0.and cO) (jJ f56 1 [0,2] [vz] (aB (sS f56 2 [0,2,4] [] (fun _=>[.slice a us.length c,vF]) (fun _=>[]) (cR [[]]<|cB (a:=fun ρ=>(.slice a us.length c)) (b:=fun ρ=>vz) (v:=fun ρ=>vF) .eql 24 (fun _ w=>(eql_nilT a us.length c w).trans (by rw [show a.isNone=false from hn]))<|cN) (fun _=>oN (aG (aA (iZ f56 4 [2] [] (fun ρ=>let qa:=vs (nb ρ 2) (([]:List bW)++us).length (aZ ρ 2);[vs (nb ρ 0) 0 0,.slice a us.length c,qa,qa]) (fun ρ=>[(0,(nw ρ 0 (cL #[] 60))),(2,(bD 0 (nb ρ 2) (cL (oc ρ 2) 60)))]) (fun ρ=>[(2,fun w=>kT.A (oc ρ 2) (([]:List bW)++us) (aZ ρ 2))]) (fun _=>(fun w=>bM w a c us∧True)) (fun ρ=>kT.A (oc ρ 2) (([]:List bW)++us) (aZ ρ 2)) (fun _ _ hF hf=>⟨hF,hf 2⟩) (cR [[],[]]<|cX (qM 0 (fun ρ _ _ hG hg=>wB (K:=kT) (ty:=24) (g:=nb ρ 0) (ts:=([]:List bW)) (us:=us) underlying24 (dA (sz:=36) (b:=80) (z:=rQ) (by kernel_rfl) rfl) RowK.A.empty (bM.srcT underlying24 hG.fn.1) (by rw [List.length_nil];omega) (by decide) hg))<|jE [[]]) (fun ρ3 ap3_2=>aF (mD [(2,(vs (nb ρ3 2) (([]:List bW)++us).length (aZ ρ3 2)))] [(nb ρ3 2,(cL (oc ρ3 2) 60))] ?_)))))))))
 exact mR (v:=(vs (nb ρ3 2) (([]:List bW)++us).length (aZ ρ3 2))) (fun _ hS=>⟨{ n:=[nb ρ3 2,aZ ρ3 2],o:=[.cells (oc ρ3 2) 0 (0,0)]},rfl,hS.bel,(hS.newb (.head _)).1,(hS.newb (.head _)).2,ap3_2⟩)
theorem clk1_any (a:Option Addr) (c:Nat) (us:List dO) (hn:a.isNone=false) (_h8:us.length≤8) (w0:World) (hf0:oG w0 a c us):Calls prog 57 #[.slice a us.length c] w0 (fun ε w'=>∃ r:bH,ε=.returned (vs (r.n.headD 0) us.length (r.n.tail.headD 0))∧jG w0 w'∧w0.heap.size≤r.n.headD 0∧w'.heap[r.n.headD 0]? = some (cL (uG r) 69)∧kK.A (uG r) us (r.n.tail.headD 0)):=by
 refine Calls.of_ok (n:=8) (F:=(fun w=>oG w a c us∧True)) func57 rfl rfl rfl (by simp) (hf0.pers0.and cO) (jJ f57 1 [0,2] [vz] (aB (sS f57 2 [0,2,4] [] (fun _=>[.slice a us.length c,vF]) (fun _=>[]) (cR [[]]<|cB (a:=fun ρ=>(.slice a us.length c)) (b:=fun ρ=>vz) (v:=fun ρ=>vF) .eql 58 (fun _ w=>(eql_nilK a us.length c w).trans (by rw [show a.isNone=false from hn]))<|cN) (fun _=>oN (aG (aA (iZ f57 4 [2] [] (fun ρ=>let qa:=vs (nb ρ 2) (([]:List dO)++us).length (aZ ρ 2);[vs (nb ρ 0) 0 0,.slice a us.length c,qa,qa]) (fun ρ=>[(0,(nw ρ 0 (cL #[] 69))),(2,(bD 0 (nb ρ 2) (cL (oc ρ 2) 69)))]) (fun ρ=>[(2,fun w=>kK.A (oc ρ 2) (([]:List dO)++us) (aZ ρ 2))]) (fun _=>(fun w=>oG w a c us∧True)) (fun ρ=>kK.A (oc ρ 2) (([]:List dO)++us) (aZ ρ 2)) (fun _ _ hF hf=>⟨hF,hf 2⟩) (cR [[],[]]<|cX (qM 0 (fun ρ _ _ hG hg=>wB (K:=kK) (ty:=58) (g:=nb ρ 0) (ts:=([]:List dO)) (us:=us) underlying58 (dA (sz:=45) (b:=144) (z:=zKp) (by kernel_rfl) rfl) RowK.A.empty (oG.src underlying58 hG.fn.1) (by rw [List.length_nil];omega) (by decide) hg))<|jE [[]]) (fun ρ3 ap3_2=>aF (mD [(2,(vs (nb ρ3 2) (([]:List dO)++us).length (aZ ρ3 2)))] [(nb ρ3 2,(cL (oc ρ3 2) 69))] ?_)))))))))
 exact mR (v:=(vs (nb ρ3 2) (([]:List dO)++us).length (aZ ρ3 2))) (fun _ hS=>⟨{ n:=[nb ρ3 2,aZ ρ3 2],o:=[.cells (oc ρ3 2) 0 (0,0)]},rfl,hS.bel,(hS.newb (.head _)).1,(hS.newb (.head _)).2,ap3_2⟩)
theorem clone_nil (w:World):Calls prog 58 #[.slice none (nI []).length 0] w (fun ε w'=>ε=.returned vz∧Below w.heap.size w w'):=yK none 0 [] rfl w Is.nil
set_option maxHeartbeats 800000 in
theorem xBP (a:Option Addr) (c:Nat) (k:Ky) (wd:Bool) (ka:Option Addr) (kc:Nat) (hk:k.Ok) (hd:rng k.d) (w0:World) (hf0:bM w0 a c ([oT k wd ka kc])) (T:Nat→Prop) (hT:∀ b,T b→b<w0.heap.size):Calls prog 34 #[.slice a ([oT k wd ka kc]).length c] w0 (fun ε w'=>jG w0 w'∧∃ r:bH,ε=.returned (.slice r.a 1 (r.n.headD 0))∧mX w0.heap.size r.a∧mX w0.heap.size r.b∧dL T (fun w=>bM w r.a (r.n.headD 0) [oT k wd r.b (r.n.tail.headD 0)]) w'):=by
 refine Calls.of_ok (n:=48) (F:=(fun w=>bM w a c ([oT k wd ka kc])∧True)) func34 rfl rfl rfl (by simp) (hf0.pers0.and cO) ?_
 have hna:a.isNone=false:=hf0.nn
 have hnk:ka.isNone=false:=hf0.kn
 refine jJ f34 1 [0,2] [vz] (iZ f34 3 [0,2] [] (fun ρ=>let qa:=vs (nb ρ 1) 1 (aZ ρ 1);[.slice a ([oT k wd ka kc]).length c,qa,qa]) (fun ρ=>[(1,(nw ρ 1 (cL (oc ρ 1) 60)))]) (fun ρ=>[(1,fun w=>kT.A (oc ρ 1) ([oT k wd ka kc]) (aZ ρ 1))]) (fun _=>(fun w=>bM w a c ([oT k wd ka kc])∧True)) (fun ρ=>kT.A (oc ρ 1) ([oT k wd ka kc]) (aZ ρ 1)) (fun _ _ hF hf=>⟨hF,hf 1⟩) (cR [[]]<|cX (xAW _ 56 (fun _=> #[.slice a ([oT k wd ka kc]).length c]) (fun _ r=>(vs (r.n.headD 0) 1 (r.n.tail.headD 0))) (fun _ r=>(cL (uG r) 60)) (fun _ r=>kT.A (uG r) ([oT k wd ka kc]) (r.n.tail.headD 0)) (fun _ _=>(by kernel_rfl)) (fun _ _=>(by kernel_rfl)) (fun _ _=>(by kernel_rfl)) (fun _ _=>(by kernel_rfl)) (fun _ _ w hG=>clt1_any a c ([oT k wd ka kc]) hna (Nat.le_of_ble_eq_true rfl) w hG.fn.1))<|jE [[]]) (fun ρ2 ap2_1=>aB (jJ f34 3 [0,2,9,10] [vs (nb ρ2 1) 1 (aZ ρ2 1),vi 1,vi 0] (aI (jY 2 (dI (jJ f34 1 [0,2,9,10,11] [vT] (aB (oY (aG (aA (aB (aI (jJ f34 2 [0,2,3,9,10,11,12] [vi 0,vi 0] (iZ f34 11 [0,2,3,9,10,11,12,13,14,15,16,17,18,19,20,21,22] [] (fun ρ=>let qa:=vs (nb ρ2 1) 1 (aZ ρ2 1);let qb:=jp (nb ρ2 1) (0*36+35);[qa,vi 0,qa,vi 0,jp (nb ρ2 1) (0*36),qb,.slice ka ([pT k wd]).length kc,vs (nb ρ 7) 1 (aZ ρ 7),jp (nb ρ2 1) (0*36),qb,undef]) (fun ρ=>[(7,(nw ρ 7 (cL (oc ρ 7) 69))),(10,(bD 0 (nb ρ2 1) (cL ((oc ρ2 1).setIfInBounds (0*36+35) (vs (nb ρ 7) 1 (aZ ρ 7))) 60)))]) (fun ρ=>[(7,fun w=>kK.A (oc ρ 7) ([pT k wd]) (aZ ρ 7))]) (fun _=>(fun w=>bM w a c ([oT k wd ka kc])∧True)) (fun ρ=>kK.A (oc ρ 7) ([pT k wd]) (aZ ρ 7)) (fun _ _ hF hf=>⟨hF,hf 7⟩) (cR [[],[],[],[]]<|cY (qS (fun _ w=>vP (g:=nb ρ2 1) (c:=aZ ρ2 1) (k:=.i64) underlying24 sizeOf60 (show (0:Int)=((0:Nat):Int) from rfl) (show 0<1 from Nat.le_of_ble_eq_true rfl) w))<|cR [[]]<|cY (kG _ 0 58 (fun _=>nb ρ2 1) (fun _=>0*36+35) (fun _=>(oc ρ2 1)) 60 (0,0) (fun _=>(.slice ka ([pT k wd]).length kc)) (fun _=>by kernel_rfl) isAgg58 (fun _=>one_get (x:=oT k wd ka kc) (o:=35) ap2_1 (by decide) (by kernel_rfl)))<|cX (xAW _ 57 (fun _=> #[.slice ka ([pT k wd]).length kc]) (fun _ r=>(vs (r.n.headD 0) 1 (r.n.tail.headD 0))) (fun _ r=>(cL (uG r) 69)) (fun _ r=>kK.A (uG r) ([pT k wd]) (r.n.tail.headD 0)) (fun _ _=>(by kernel_rfl)) (fun _ _=>(by kernel_rfl)) (fun _ _=>(by kernel_rfl)) (fun _ _=>(by kernel_rfl)) (fun _ _ w hG=>clk1_any ka kc ([pT k wd]) hnk (Nat.le_of_ble_eq_true rfl) w (hG.fn.1.sub _ (xAE (show 0<([oT k wd ka kc]).length from Nat.le_of_ble_eq_true rfl)))))<|cY (qS (fun _ w=>vP (g:=nb ρ2 1) (c:=aZ ρ2 1) (k:=.i64) underlying24 sizeOf60 (show (0:Int)=((0:Nat):Int) from rfl) (show 0<1 from Nat.le_of_ble_eq_true rfl) w))<|cR [[]]<|cY (qG _ 0 58 (fun _=>nb ρ2 1) (fun _=>0*36+35) (fun _=>(oc ρ2 1)) (fun ρ=>((oc ρ2 1).setIfInBounds (0*36+35) (vs (nb ρ 7) 1 (aZ ρ 7)))) 60 (fun ρ=>(vs (nb ρ 7) 1 (aZ ρ 7))) (fun _=>by kernel_rfl) sizeOf58 (fun _=>rfl) (fun _=>(one_lt (o:=35) ap2_1 (by decide))) (fun _=>rfl))<|cN) (fun ρ6 ap6_7=>sS f34 7 [0,2,3,9,10,11,12,13,14,15,16,17,18,19,20,21,22,23,24,25,26,27,28,29] [] (fun _=>[vs (nb ρ2 1) 1 (aZ ρ2 1),vi 0,jp (nb ρ2 1) (0*36),jp (nb ρ2 1) (0*36+35),vs (nb ρ6 7) 1 (aZ ρ6 7),vi 1,vi 0]) (fun _=>[]) (cR [[],[]]<|cX (qS (fun _ w=>vP (g:=nb ρ2 1) (c:=aZ ρ2 1) (k:=.i64) underlying24 sizeOf60 (show (0:Int)=((0:Nat):Int) from rfl) (show 0<1 from Nat.le_of_ble_eq_true rfl) w))<|cR [[]]<|cX (kG _ 0 58 (fun _=>nb ρ2 1) (fun _=>0*36+35) (fun _=>((oc ρ2 1).setIfInBounds (0*36+35) (vs (nb ρ6 7) 1 (aZ ρ6 7)))) 60 (0,0) (fun _=>(vs (nb ρ6 7) 1 (aZ ρ6 7))) (fun _=>by kernel_rfl) isAgg58 (fun _=>one_get (x:=oT k wd (some ⟨nb ρ6 7,0,none⟩) (aZ ρ6 7)) (o:=35) (one_set (o:=35) (v:=(vs (nb ρ6 7) 1 (aZ ρ6 7))) (x':=oT k wd (some ⟨nb ρ6 7,0,none⟩) (aZ ρ6 7)) ap2_1 (by decide) (by kernel_rfl)) (by decide) (by kernel_rfl)))<|jE [[],[]]) (fun _=>lK [(0,(vs (nb ρ2 1) 1 (aZ ρ2 1))),(2,vz),(3,(vi 0)),(9,(vi 1)),(10,(vi 0)),(11,vT),(12,(vi 0)),(13,(vs (nb ρ2 1) 1 (aZ ρ2 1))),(14,(vi 0)),(15,(vs (nb ρ2 1) 1 (aZ ρ2 1))),(16,(vi 0)),(17,(jp (nb ρ2 1) (0*36))),(18,(jp (nb ρ2 1) (0*36+35))),(19,(.slice ka ([pT k wd]).length kc)),(20,(vs (nb ρ6 7) 1 (aZ ρ6 7))),(21,(jp (nb ρ2 1) (0*36))),(22,(jp (nb ρ2 1) (0*36+35))),(23,(vs (nb ρ2 1) 1 (aZ ρ2 1))),(24,(vi 0)),(25,(jp (nb ρ2 1) (0*36))),(26,(jp (nb ρ2 1) (0*36+35))),(27,(vs (nb ρ6 7) 1 (aZ ρ6 7))),(28,(vi 1)),(29,(vi 0))] [(nb ρ2 1,(cL ((oc ρ2 1).setIfInBounds (0*36+35) (vs (nb ρ6 7) 1 (aZ ρ6 7))) 60)),(nb ρ6 7,(cL (oc ρ6 7) 69))] (aI (jY 2 (dI (jJ f34 1 [0,2,3,9,10,11,12,13,14,15,16,17,18,19,20,21,22,23,24,25,26,27,28,29,30] [vT] (aB (oY (aG ?_))))))))))))))))))))))))
 refine aA (aB (aI (sS f34 6 [0,2,3,4,5,9,10,11,12,13,14,15,16,17,18,19,20,21,22,23,24,25,26,27,28,29,30,31,32,33] [] (fun ρ=>[vi 0,jp (nb ρ6 7) (0*45),.agg (kM k.s k.p k.c k.d ((k.i:Nat):Int) ((k.n:Nat):Int) (.slice none (nI []).length 0) (.bool wd)),pt (nb ρ 3),vi 0,undef]) (fun ρ=>[(3,(nw ρ 3 (cL (kM 0 0 0 0 0 0 vz vF) 69))),(5,(bD 26 (nb ρ 3) (cL (kM k.s k.p k.c k.d ((k.i:Nat):Int) ((k.n:Nat):Int) (.slice none (nI []).length 0) (.bool wd)) 69)))]) (cR [[]]<|cX (qS (fun _ w=>vP (g:=nb ρ6 7) (c:=aZ ρ6 7) (k:=.i64) underlying58 sizeOf69 (show (0:Int)=((0:Nat):Int) from rfl) (show 0<1 from Nat.le_of_ble_eq_true rfl) w))<|cX (qF (v:=fun ρ=>(.agg (kM k.s k.p k.c k.d ((k.i:Nat):Int) ((k.n:Nat):Int) (.slice none (nI []).length 0) (.bool wd)))) (fun _ _ _ hG=>one_ldK (k:=k) (wd:=wd) isAgg69 sizeOf69 (hG.kn (g:=nb ρ6 7) (o:=(cL (oc ρ6 7) 69)) 1) ap6_7))<|jE [[],[],[26]]) (fun ρ9=>rD f34 [0,0,3,7,15,0,0,64,192,511,1023,2047] 12 [0,2,3,4,5,9,10,11,12,13,14,15,16,17,18,19,20,21,22,23,24,25,26,27,28,29,30,31,32,33,34,35,36,37,38,39,40,41,42,43,44] [] (fun _=>[vs (nb ρ2 1) 1 (aZ ρ2 1),vi 0,jp (nb ρ2 1) (0*36),jp (nb ρ2 1) (0*36+35),vs (nb ρ6 7) 1 (aZ ρ6 7),vi 0,jp (nb ρ9 3) 43,.slice none (nI []).length 0,vz,jp (nb ρ6 7) (0*45),jp (nb ρ6 7) (0*45+43),undef]) (fun _=>[(11,(bD 1 (nb ρ6 7) (cL ((oc ρ6 7).setIfInBounds (0*45+43) vz) 69)))]) (cR [[],[]]<|cX (qS (fun _ w=>vP (g:=nb ρ2 1) (c:=aZ ρ2 1) (k:=.i64) underlying24 sizeOf60 (show (0:Int)=((0:Nat):Int) from rfl) (show 0<1 from Nat.le_of_ble_eq_true rfl) w))<|cR [[]]<|cX (kG _ 0 58 (fun _=>nb ρ2 1) (fun _=>0*36+35) (fun _=>((oc ρ2 1).setIfInBounds (0*36+35) (vs (nb ρ6 7) 1 (aZ ρ6 7)))) 60 (0,0) (fun _=>(vs (nb ρ6 7) 1 (aZ ρ6 7))) (fun _=>by kernel_rfl) isAgg58 (fun _=>one_get (x:=oT k wd (some ⟨nb ρ6 7,0,none⟩) (aZ ρ6 7)) (o:=35) (one_set (o:=35) (v:=(vs (nb ρ6 7) 1 (aZ ρ6 7))) (x':=oT k wd (some ⟨nb ρ6 7,0,none⟩) (aZ ρ6 7)) ap2_1 (by decide) (by kernel_rfl)) (by decide) (by kernel_rfl)))<|cR [[],[],[2]]<|cC (fun _ w=>clone_nil w)<|cX (qS (fun _ w=>vP (g:=nb ρ6 7) (c:=aZ ρ6 7) (k:=.i64) underlying58 sizeOf69 (show (0:Int)=((0:Nat):Int) from rfl) (show 0<1 from Nat.le_of_ble_eq_true rfl) w))<|cR [[]]<|cX (qG _ 1 67 (fun _=>nb ρ6 7) (fun _=>0*45+43) (fun _=>(oc ρ6 7)) (fun _=>((oc ρ6 7).setIfInBounds (0*45+43) vz)) 69 (fun _=>vz) (fun _=>by kernel_rfl) sizeOf67 (fun _=>rfl) (fun _=>(one_lt (o:=43) ap6_7 (by decide))) (fun _=>rfl))<|cN) (fun _=>aJ (aA (jL f34 2 [0,2,3,4,5,9,10,11,12,13,14,15,16,17,18,19,20,21,22,23,24,25,26,27,28,29,30,31,32,33,34,35,36,37,38,39,40,41,42,43,44,45] [] [vi 1,vi 1] [[],[]] (dV (dI (jJ f34 1 [0,2,3,4,5,9,10,11,12,13,14,15,16,17,18,19,20,21,22,23,24,25,26,27,28,29,30,31,32,33,34,35,36,37,38,39,40,41,42,43,44,45] [vF] (aB (oN (bF (aN (aN (aT (aJ (aA (jL f34 2 [0,2,3,4,5,9,10,11,12,13,14,15,16,17,18,19,20,21,22,23,24,25,26,27,28,29,30,31,32,33,34,35,36,37,38,39,40,41,42,43,44,45,46] [] [vi 1,vi 1] [[],[]] (dV (dI (jJ f34 1 [0,2,3,4,5,9,10,11,12,13,14,15,16,17,18,19,20,21,22,23,24,25,26,27,28,29,30,31,32,33,34,35,36,37,38,39,40,41,42,43,44,45,46] [vF] (lK [(0,(vs (nb ρ2 1) 1 (aZ ρ2 1))),(2,vz),(3,(vi 0)),(4,(vi 0)),(5,(pt (nb ρ9 3))),(9,(vi 1)),(10,(vi 1)),(11,vF),(12,(vi 0)),(13,(vs (nb ρ2 1) 1 (aZ ρ2 1))),(14,(vi 0)),(15,(vs (nb ρ2 1) 1 (aZ ρ2 1))),(16,(vi 0)),(17,(jp (nb ρ2 1) (0*36))),(18,(jp (nb ρ2 1) (0*36+35))),(19,(.slice ka ([pT k wd]).length kc)),(20,(vs (nb ρ6 7) 1 (aZ ρ6 7))),(21,(jp (nb ρ2 1) (0*36))),(22,(jp (nb ρ2 1) (0*36+35))),(23,(vs (nb ρ2 1) 1 (aZ ρ2 1))),(24,(vi 0)),(25,(jp (nb ρ2 1) (0*36))),(26,(jp (nb ρ2 1) (0*36+35))),(27,(vs (nb ρ6 7) 1 (aZ ρ6 7))),(28,(vi 1)),(29,(vi 1)),(30,vF),(31,(vi 0)),(32,(jp (nb ρ6 7) (0*45))),(33,(.agg (kM k.s k.p k.c k.d ((k.i:Nat):Int) ((k.n:Nat):Int) (.slice none (nI []).length 0) (.bool wd)))),(34,(vs (nb ρ2 1) 1 (aZ ρ2 1))),(35,(vi 0)),(36,(jp (nb ρ2 1) (0*36))),(37,(jp (nb ρ2 1) (0*36+35))),(38,(vs (nb ρ6 7) 1 (aZ ρ6 7))),(39,(vi 0)),(40,(jp (nb ρ9 3) 43)),(41,(.slice none (nI []).length 0)),(42,vz),(43,(jp (nb ρ6 7) (0*45))),(44,(jp (nb ρ6 7) (0*45+43))),(45,(vi 1)),(46,(vi 1))] [(nb ρ2 1,(cL ((oc ρ2 1).setIfInBounds (0*36+35) (vs (nb ρ6 7) 1 (aZ ρ6 7))) 60)),(nb ρ6 7,(cL ((oc ρ6 7).setIfInBounds (0*45+43) vz) 69)),(nb ρ9 3,(cL (kM k.s k.p k.c k.d ((k.i:Nat):Int) ((k.n:Nat):Int) (.slice none (nI []).length 0) (.bool wd)) 69))] (aB ?_))))))))))))))))))))))))
 refine oN (bF (aN (aN (aT (aA (jM f34 2 [2] [1,1,0] [vs (nb ρ2 1) 1 (aZ ρ2 1),vs (nb ρ2 1) 1 (aZ ρ2 1)] [[],[]] (aF (mD [(2,(vs (nb ρ2 1) 1 (aZ ρ2 1)))] [(nb ρ2 1,(cL ((oc ρ2 1).setIfInBounds (0*36+35) (vs (nb ρ6 7) 1 (aZ ρ6 7))) 60)),(nb ρ6 7,(cL ((oc ρ6 7).setIfInBounds (0*45+43) vz) 69))] ?_))))))))
 exact mR (v:=(vs (nb ρ2 1) 1 (aZ ρ2 1))) (fun _ hS=>⟨hS.bel,{ n:=[aZ ρ2 1,aZ ρ6 7],a:=some ⟨nb ρ2 1,0,none⟩,b:=some ⟨nb ρ6 7,0,none⟩},rfl,mX.some (hS.newb (.head _)).1,mX.some (hS.newb (.tail _ (.head _))).1,hS.oneT hT (hS.newb (.head _)) (hS.newb (.tail _ (.head _))) (one_set (o:=35) (v:=(vs (nb ρ6 7) 1 (aZ ρ6 7))) (x':=oT k wd (some ⟨nb ρ6 7,0,none⟩) (aZ ρ6 7)) ap2_1 (by decide) (by kernel_rfl)) (one_set (o:=43) (v:=vz) (x':=pT k wd) ap6_7 (by decide) (by kernel_rfl)) (pT_ok hk hd)⟩)
theorem bequal_any (a:Option Addr) (c:Nat) (B:List UInt8) (a2:Option Addr) (c2:Nat) (S:List UInt8) (w0:World) (hf0:Bs w0 a c B) (hf1:Bs w0 a2 c2 S):Calls prog 45 #[.slice a B.length c,.slice a2 S.length c2] w0 (jR (.bool (decide (B=S))) w0):=by
 refine Calls.of_ok (n:=10) (F:=(fun w=>Bs w a c B∧Bs w a2 c2 S∧True)) func45 rfl rfl rfl (by simp) (hf0.pers0.and (hf1.pers0.and cO)) (jJ f45 1 [0,1,4] [vF] (sS f45 6 [4] [] (fun _=>[.slice a B.length c,.string (gY B),.slice a2 S.length c2,.string (gY S),.bool (decide (B=S)),.bool (decide (B=S))]) (fun _=>[]) (cR [[]]<|cX (jF (fun _=>convert 37 9 (.slice a B.length c)) (fun _=>(.string (gY B))) (fun _ _ _ hG=>xAX (xs:=B) underlying37 underlying5 underlying9 hG.fn.1 rfl) (fun _ _ _ _=>cO))<|cR [[]]<|cX (jF (fun _=>convert 37 9 (.slice a2 S.length c2)) (fun _=>(.string (gY S))) (fun _ _ _ hG=>xAX (xs:=S) underlying37 underlying5 underlying9 hG.fn.2.1 rfl) (fun _ _ _ _=>cO))<|cB .eql 9 (fun _ w=>eql_str B S w)<|jE [[]]) (fun _=>aF ?_)))
 exact mR (v:=(.bool (decide (B=S)))) (fun _ hS=>⟨rfl,hS.bel⟩)
theorem xBB (a:Option Addr) (c:Nat) (B:List UInt8) (w0:World) (hf0:Bs w0 a c B):Calls prog 42 #[.slice a B.length c] w0 (fun ε w'=>∃ α κ,ε=.returned (.slice α B.length κ)∧jG w0 w'∧Fs w0 w' α κ B):=by
 refine Calls.of_ok (n:=8) (F:=(fun w=>Bs w a c B∧True)) func42 rfl rfl rfl (by simp) (hf0.pers0.and cO) (jJ f42 1 [0,2] [vz] (aB (sS f42 2 [0,2,4] [] (fun _=>[.slice a B.length c,.bool a.isNone]) (fun _=>[]) (cR [[]]<|cB .eql 37 (fun _ w=>eql_nil8 a B.length c w)<|cN) (fun _=>oC a.isNone (fun hb1=>?_) (fun hb1=>?_)))))
 ·rw [hb1]
  refine jJ f42 1 [0,2] [vz] (aF (aC (mD [(0,(.slice a B.length c)),(2,vz)] [] ?_)))
  exact mR (v:=vz) (fun _ hS=>⟨none,0,congrArg Ending.returned (by rw [Bs.isn hf0 hb1]<;>rfl),hS.bel,dU (Bs.isn hf0 hb1).symm Fs.nil⟩)
 rw [hb1]
 refine aG (aA (iZ f42 4 [2] [] (fun ρ=>let qa:=vs (nb ρ 2) (([]:List UInt8)++B).length (aZ ρ 2);[vs (nb ρ 0) ([]:List UInt8).length 0,.slice a B.length c,qa,qa]) (fun ρ=>[(0,(nw ρ 0 (cL #[] 5))),(2,(bD 0 (nb ρ 2) (cL (oc ρ 2) 5)))]) (fun ρ=>[(2,fun w=>Ap (oc ρ 2) (([]:List UInt8)++B) (aZ ρ 2))]) (fun _=>(fun w=>Bs w a c B∧True)) (fun ρ=>Ap (oc ρ 2) (([]:List UInt8)++B) (aZ ρ 2)) (fun _ _ hF hf=>⟨hF,hf 2⟩) (cR [[],[]]<|cX (qM 0 (fun ρ _ _ hG hg=>app_any (ty:=37) (g:=nb ρ 0) (C:= #[]) (c:=0) (xs:=([]:List UInt8)) underlying37 nH (Ap.mk' (rfl:Hd #[] ([]:List UInt8)) (Nat.le_refl 0) (Nat.le_of_ble_eq_true rfl) rfl) (Bs.src (tx:=37) underlying37 hG.fn.1) (by rw [List.length_nil,Nat.zero_add];exact hf0.max) hg))<|jE [[]]) (fun ρ4 ap4_2=>aF (mD [(2,(vs (nb ρ4 2) (([]:List UInt8)++B).length (aZ ρ4 2)))] [(nb ρ4 2,(cL (oc ρ4 2) 5))] ?_))))
 exact mR (v:=(vs (nb ρ4 2) (([]:List UInt8)++B).length (aZ ρ4 2))) (fun _ hS=>⟨some ⟨nb ρ4 2,0,none⟩,aZ ρ4 2,congrArg Ending.returned (rfl),hS.bel,dU (rfl) (hS.fresh (.head _) ap4_2.hd ap4_2.le ap4_2.max)⟩)
theorem wfind1_any (a:Option Addr) (c:Nat) (B:List UInt8) (a2:Option Addr) (c2:Nat) (S:List UInt8) (g:Nat) (w0:World) (hf0:Bs w0 a c B) (hf1:Bs w0 a2 c2 S) (hf2:Kb w0 g #[.slice a2 S.length c2]):Calls prog 44 #[.slice a B.length c,pt g] w0 (jR (.bool (decide (B=S))) w0):=by
 refine Calls.of_ok (n:=7) (F:=(fun w=>Bs w a c B∧Bs w a2 c2 S∧Kb w g #[.slice a2 S.length c2]∧True)) func44 rfl rfl rfl (by simp) (hf0.pers0.and (hf1.pers0.and (hf2.pers0.and cO))) (jJ f44 1 [0,1,3] [vF] (sS f44 4 [3] [] (fun _=>[.slice a B.length c,.slice a2 S.length c2,.bool (decide (B=S)),.bool (decide (B=S))]) (fun _=>[]) (cR [[]]<|cX (qF (v:=fun ρ=>(.slice a2 S.length c2)) (fun _ _ _ hG=>mY (off:=0) isAgg37 hG.fn.2.2.1 (rfl)))<|cX (qC (fun _ _ w hG=>bequal_any a c B a2 c2 S w hG.fn.1 hG.fn.2.1))<|jE [[]]) (fun _=>aF ?_)))
 exact mR (v:=(.bool (decide (B=S)))) (fun _ hS=>⟨rfl,hS.bel⟩)
theorem windex_any (a:Option Addr) (c:Nat) (l:List bU) (a2:Option Addr) (c2:Nat) (S:List UInt8) (g:Nat) (w0:World) (hf0:bI w0 a c l) (hf1:Bs w0 a2 c2 S) (hf2:Kb w0 g #[.slice a2 S.length c2]):Calls prog 43 #[.slice a l.length c,.func (.func 44) #[] #[pt g]] w0 (jR (vi (tH S (sB l) 0)) w0):=by
 refine Calls.of_ok (n:=19) (F:=(fun w=>bI w a c l∧Bs w a2 c2 S∧Kb w g #[.slice a2 S.length c2]∧True)) func43 rfl rfl rfl (by simp) (hf0.pers0.and (hf1.pers0.and (hf2.pers0.and cO))) ?_
 have hlen:l.length≤140737488351232:=hf0.max
 refine jJ f43 1 [0,1,4] [vi 0] (aB (jJ f43 3 [0,1,4,7,8] [.slice a l.length c,vn l.length,vi 0] (aI ?_)))
 refine oL (σ:=Nat) (fun i=>[(0,(.slice a l.length c)),(1,(.func (.func 44) #[] #[pt g])),(7,(vn l.length)),(8,(vn i))]) (fun _=>[]) (fun i=>l.length-i)
  (fun i=>(i≤l.length)∧(tH S ((sB l).drop i) i=tH S (sB l) 0)) 0 (⟨Nat.zero_le _,rfl⟩) [] ?_
 rintro i ⟨hi,hr⟩
 refine jJ f43 1 [0,1,7,8,9] [.bool (decide (((i:Nat):Int)<((l.length:Nat):Int)))] (aB (oC (decide (((i:Nat):Int)<((l.length:Nat):Int))) (fun hb1=>?_) (fun hb1=>?_)))
 ·rw [hb1]
  have:=yT hb1
  refine aG (aA (aB (aI (jJ f43 2 [0,1,5,7,8] [vn i,vn i] (sS f43 6 [0,1,5,7,8,16] [] (fun _=>[.func (.func 44) #[] #[pt g],.slice a l.length c,vn i,.pointer (fK a i),.slice (gS l i).a (gS l i).b.length (gS l i).c,.bool (decide ((gS l i).b=S))]) (fun _=>[]) (cR [[],[],[]]<|cX (qF (fun _ _ _ hG=>bI.idx (k:=.i64) underlying29 sizeOf37 hG.fn.1 rfl (show ((i:Nat):Int)=((i:Nat):Int) from rfl) (show i<l.length from om)))<|cX (qF (fun _ _ _ hG=>bI.ld isAgg37 hG.fn.1 (show i<l.length from om)))<|cX (qC (fun _ _ w hG=>wfind1_any (gS l i).a (gS l i).c (gS l i).b a2 c2 S g w (hG.fn.1.sub _ (oH (show i<l.length from om))) hG.fn.2.1 hG.fn.2.2.1))<|cN) (fun _=>oC (decide ((gS l i).b=S)) (fun hb2=>?_) (fun hb2=>?_)))))))
  ·rw [hb2]
   refine jJ f43 2 [0,1,4,7,8] [vn i,vn i] (aF (aP (aC (aC (aP (aC ?_))))))
   exact mR (v:=(vn i)) (fun _ hS=>⟨congrArg (fun x=>Ending.returned (vi x)) (ixB_stop (oA (yT hb2)) hb2 hr),hS.bel⟩)
  rw [hb2]
  have:=yF hb2
  refine aG (aJ (aA (rS f43 2 [0,1,7,8] [] (fun _=>[vn (i+1),vn (i+1)]) (fun _=>[]) (jW (fun ρ=>(((i:Nat):Int)+1)) (fun _=>(i+1)) (fun _=>(aW i 1 om))<|jE [[]]) (fun _=>?_))))
  exact mN (i+1) (by show l.length-(i+1)<l.length-i;omega) (⟨om,ixB_next om hb2 hr⟩) []
 rw [hb1]
 refine bF (aN (aN (aT (aA (jJ f43 1 [4] [vi (-1)] (aF ?_))))))
 exact mR (v:=(vi (-1))) (fun _ hS=>⟨congrArg (fun x=>Ending.returned (vi x)) (ixB_end (oA (yF hb1)) hr),hS.bel⟩)
theorem xAG (x0:Value) (x1:Int) (x2:Int) (a:Option Addr) (c:Nat) (l:List bU) (a2:Option Addr) (c2:Nat) (S:List UInt8) (w0:World) (hf0:bI w0 a c l) (hf1:Bs w0 a2 c2 S):Calls prog 21 #[.agg #[x0,vi x1,vi x2,.slice a l.length c],.slice a2 S.length c2] w0 (jR (vi (tH S (sB l) 0)) w0):=by
 refine Calls.of_ok (n:=9) (F:=(fun w=>bI w a c l∧Bs w a2 c2 S∧True)) func21 rfl rfl rfl (by simp) (hf0.pers0.and (hf1.pers0.and cO)) (sS f21 3 [2,3,4] [] (fun ρ=>[pt (nb ρ 0),pt (nb ρ 1),vi 0]) (fun ρ=>[(0,(nw ρ 0 (cL #[x0,vi x1,vi x2,.slice a l.length c] 31))),(1,(nw ρ 1 (cL #[.slice a2 S.length c2] 37)))]) (jE [[],[],[]]) (fun ρ1=>sS f21 5 [4] [0,0] (fun _=>[jp (nb ρ1 0) 3,.slice a l.length c,.func (.func 44) #[] #[pt (nb ρ1 1)],vi (tH S (sB l) 0),vi (tH S (sB l) 0)]) (fun _=>[]) (cR [[],[0],[]]<|cX (qC (fun _ _ w hG=>windex_any a c l a2 c2 S (nb ρ1 1) w hG.fn.1 hG.fn.2.1 (Kb.of_block (hG.kn (g:=nb ρ1 1) (o:=(cL #[.slice a2 S.length c2] 37)) 1))))<|jE [[]]) (fun _=>aF ?_)))
 exact mR (v:=(vi (tH S (sB l) 0))) (fun _ hS=>⟨rfl,hS.bel⟩)
theorem clw1_any (a:Option Addr) (c:Nat) (l:List bU) (hn:a.isNone=false) (_h9:l.length≤900) (w0:World) (hf0:bI w0 a c l):Calls prog 69 #[.slice a l.length c] w0 (fun ε w'=>∃ r:bH,ε=.returned (vs (r.n.headD 0) l.length (r.n.tail.headD 0))∧jG w0 w'∧w0.heap.size≤r.n.headD 0∧w'.heap[r.n.headD 0]? = some (cL (uG r) 37)∧kW.A (uG r) l (r.n.tail.headD 0)):=by
 refine Calls.of_ok (n:=8) (F:=(fun w=>bI w a c l∧True)) func69 rfl rfl rfl (by simp) (hf0.pers0.and cO) (jJ f69 1 [0,2] [vz] (aB (sS f69 2 [0,2,4] [] (fun _=>[.slice a l.length c,vF]) (fun _=>[]) (cR [[]]<|cB (a:=fun ρ=>(.slice a l.length c)) (b:=fun ρ=>vz) (v:=fun ρ=>vF) .eql 29 (fun _ w=>(eql_nilW a l.length c w).trans (by rw [show a.isNone=false from hn]))<|cN) (fun _=>oN (aG (aA (iZ f69 4 [2] [] (fun ρ=>let qa:=vs (nb ρ 2) (([]:List bU)++l).length (aZ ρ 2);[vs (nb ρ 0) 0 0,.slice a l.length c,qa,qa]) (fun ρ=>[(0,(nw ρ 0 (cL #[] 37))),(2,(bD 0 (nb ρ 2) (cL (oc ρ 2) 37)))]) (fun ρ=>[(2,fun w=>kW.A (oc ρ 2) (([]:List bU)++l) (aZ ρ 2))]) (fun _=>(fun w=>bI w a c l∧True)) (fun ρ=>kW.A (oc ρ 2) (([]:List bU)++l) (aZ ρ 2)) (fun _ _ hF hf=>⟨hF,hf 2⟩) (cR [[],[]]<|cX (qM 0 (fun ρ _ _ hG hg=>wB (K:=kW) (ty:=29) (g:=nb ρ 0) (ts:=([]:List bU)) (us:=l) underlying29 (dA (sz:=1) (b:=24) (z:=vz) (by kernel_rfl) rfl) RowK.A.empty (bI.src underlying29 hG.fn.1) (by rw [List.length_nil];omega) (by decide) hg))<|jE [[]]) (fun ρ3 ap3_2=>aF (mD [(2,(vs (nb ρ3 2) (([]:List bU)++l).length (aZ ρ3 2)))] [(nb ρ3 2,(cL (oc ρ3 2) 37))] ?_)))))))))
 exact mR (v:=(vs (nb ρ3 2) (([]:List bU)++l).length (aZ ρ3 2))) (fun _ hS=>⟨{ n:=[nb ρ3 2,aZ ρ3 2],o:=[.cells (oc ρ3 2) 0 (0,0)]},rfl,hS.bel,(hS.newb (.head _)).1,(hS.newb (.head _)).2,ap3_2⟩)
theorem cls1_any (a:Option Addr) (c:Nat) (l:List bU) (hn:a.isNone=false) (h9:l.length≤900) (w0:World) (hf0:bI w0 a c l) (T:Nat→Prop) (hT:∀ b,T b→b<w0.heap.size):Calls prog 41 #[.slice a l.length c] w0 (fun ε w'=>∃ r:bH,ε=.returned (vs (r.n.headD 0) r.s.length (r.n.tail.headD 0))∧jG w0 w'∧w0.heap.size≤r.n.headD 0∧w'.heap[r.n.headD 0]? = some (cL (uG r) 37)∧sK w0.heap.size r.s∧dL (fun b=>T b∨b=r.n.headD 0) (fun w=>dN w r.s∧kW.A (uG r) r.s (r.n.tail.headD 0)∧sB r.s=sB l) w'):=by
 refine Calls.of_ok (n:=21) (F:=(fun w=>bI w a c l∧True)) func41 rfl rfl rfl (by simp) (hf0.pers0.and cO) (jJ f41 1 [0,2] [vz] (iZ f41 3 [0,2] [] (fun ρ=>let qa:=vs (nb ρ 1) l.length (aZ ρ 1);[.slice a l.length c,qa,qa]) (fun ρ=>[(1,(nw ρ 1 (cL (oc ρ 1) 37)))]) (fun ρ=>[(1,fun w=>kW.A (oc ρ 1) l (aZ ρ 1))]) (fun _=>(fun w=>bI w a c l∧True)) (fun ρ=>kW.A (oc ρ 1) l (aZ ρ 1)) (fun _ _ hF hf=>⟨hF,hf 1⟩) (cR [[]]<|cX (xAW _ 69 (fun _=> #[.slice a l.length c]) (fun _ r=>(vs (r.n.headD 0) l.length (r.n.tail.headD 0))) (fun _ r=>(cL (uG r) 37)) (fun _ r=>kW.A (uG r) l (r.n.tail.headD 0)) (fun _ _=>(by kernel_rfl)) (fun _ _=>(by kernel_rfl)) (fun _ _=>(by kernel_rfl)) (fun _ _=>(by kernel_rfl)) (fun _ _ w hG=>clw1_any a c l hn h9 w hG.fn.1))<|jE [[]]) (fun ρ2 ap2_1=>aB (jJ f41 3 [0,2,7,8,9] [vs (nb ρ2 1) l.length (aZ ρ2 1),vn l.length,vi 0] (aI ?_)))))
 refine oLF (σ:=Nat × (Array Value) × (List bU)) (fun ⟨_,_,L⟩=>(fun w=>bI w a c l∧dN w L∧True)) (fun ⟨i,_,_⟩=>[(0,(vs (nb ρ2 1) l.length (aZ ρ2 1))),(2,vz),(7,(vs (nb ρ2 1) l.length (aZ ρ2 1))),(8,(vn l.length)),(9,(vn i))]) (fun ⟨_,C,_⟩=>[(nb ρ2 1,(cL C 37))]) (fun ⟨i,_,_⟩=>l.length-i)
  (fun ⟨i,C,L⟩=>(i≤l.length)∧(sB L=sB l)∧(kW.A C L (aZ ρ2 1))∧(sK w0.heap.size (L.take i))) (0,oc ρ2 1,l) (⟨Nat.zero_le _,rfl,ap2_1,tK.nil⟩) (fun w hF=>⟨hF.1,hF.1.sub,trivial⟩) [] ?_
 rintro ⟨i,C,L⟩ ⟨hi,hL,hA,hN⟩
 have hLl:L.length=l.length:=sB_eqlen hL
 refine jJ f41 1 [0,2,7,8,9,10] [.bool (decide (((i:Nat):Int)<((l.length:Nat):Int)))] (aB (oC (decide (((i:Nat):Int)<((l.length:Nat):Int))) (fun hb1=>?_) (fun hb1=>?_)))
 ·rw [hb1]
  have:=yT hb1
  refine aG (aA (aB (aI (sS f41 5 [0,2,3,4,7,8,9] [] (fun _=>let qa:Value:=.slice (gS L i).a (gS L i).b.length (gS L i).c;[vn i,jp (nb ρ2 1) (i*1),qa,vn i,qa]) (fun _=>[]) (cR [[]]<|cX (qS (fun _ w=>vP (g:=nb ρ2 1) (c:=aZ ρ2 1) (k:=.i64) underlying29 sizeOf37 (show ((i:Nat):Int)=((i:Nat):Int) from rfl) (show i<l.length from om) w))<|cX (kG _ 0 37 (fun _=>nb ρ2 1) (fun _=>i*1) (fun _=>C) 37 (0,0) (fun _=>(.slice (gS L i).a (gS L i).b.length (gS L i).c)) (fun _=>by kernel_rfl) isAgg37 (fun _=>kW_get hA (show i<L.length from om)))<|jE [[],[]]) (fun _=>rSf f41 6 [0,2,7,8,9] [] (fun ρ=>[vs (nb ρ2 1) l.length (aZ ρ2 1),vn i,.slice (gS L i).a (gS L i).b.length (gS L i).c,.slice (oa ρ 3) (gS L i).b.length (nb ρ 3),jp (nb ρ2 1) (i*1),undef]) (fun ρ=>[(5,(bD 0 (nb ρ2 1) (cL (C.setIfInBounds (i*1) (.slice (oa ρ 3) (gS L i).b.length (nb ρ 3))) 37)))]) (fun ρ=>[(3,fun w=>Fs w0 w (oa ρ 3) (nb ρ 3) (gS L i).b)]) (fun ρ=>(fun w=>bI w a c l∧dN w L∧Fs w0 w (oa ρ 3) (nb ρ 3) (gS L i).b∧True)) (fun _=>True) (fun _ _ hF hf=>⟨⟨hF.1,hF.2.1,hf 3,trivial⟩,trivial⟩) (cR [[],[],[]]<|cX (qB (fun _ _ w hG=>xBB (gS L i).a (gS L i).c (gS L i).b w (hG.fn.2.1 _ (oH (show i<L.length from om)))))<|cY (qS (fun _ w=>vP (g:=nb ρ2 1) (c:=aZ ρ2 1) (k:=.i64) underlying29 sizeOf37 (show ((i:Nat):Int)=((i:Nat):Int) from rfl) (show i<l.length from om) w))<|cY (qG _ 0 37 (fun _=>nb ρ2 1) (fun _=>i*1) (fun _=>C) (fun ρ=>(C.setIfInBounds (i*1) (.slice (oa ρ 3) (gS L i).b.length (nb ρ 3)))) 37 (fun ρ=>(.slice (oa ρ 3) (gS L i).b.length (nb ρ 3))) (fun _=>by kernel_rfl) sizeOf37 (fun _=>rfl) (fun _=>(kW_lt hA (show i<L.length from om))) (fun _=>rfl))<|cN) (fun ρ6 _=>aJ (aA (xAN (p:=sK w0.heap.size [⟨oa ρ6 3,nb ρ6 3,(gS L i).b⟩]) (fun w hF=>sK.one hF.2.2.1) (fun hx=>rS f41 2 [0,2,7,8,9] [] (fun _=>[vn (i+1),vn (i+1)]) (fun _=>[]) (jW (fun ρ=>(((i:Nat):Int)+1)) (fun _=>(i+1)) (fun _=>(aW i 1 om))<|jE [[]]) (fun _=>mD [(0,(vs (nb ρ2 1) l.length (aZ ρ2 1))),(2,vz),(7,(vs (nb ρ2 1) l.length (aZ ρ2 1))),(8,(vn l.length)),(9,(vn (i+1)))] [(nb ρ2 1,(cL (C.setIfInBounds (i*1) (.slice (oa ρ6 3) (gS L i).b.length (nb ρ6 3))) 37))] ?_))))))))))
  exact mNF (i+1,C.setIfInBounds (i*1) (.slice (oa ρ6 3) (gS L i).b.length (nb ρ6 3)),L.set i (bU.mk (oa ρ6 3) (nb ρ6 3) (gS L i).b)) (by show l.length-(i+1)<l.length-i;omega) (⟨om,(sB_set (show i<L.length from om)).trans hL,kW_set (j:=i) hA (bU.mk (oa ρ6 3) (nb ρ6 3) (gS L i).b),sK.next (show i<L.length from om) hN hx⟩) (fun w hS=>hS.weaken (fun w hF=>⟨hF.1,dN.set hF.2.1 hF.2.2.1.1,trivial⟩))
 rw [hb1]
 refine bF (aN (aN (aT (aA (jJ f41 2 [2] (let qa:=vs (nb ρ2 1) l.length (aZ ρ2 1);[qa,qa]) (aF (mD [(2,(vs (nb ρ2 1) l.length (aZ ρ2 1)))] [(nb ρ2 1,(cL C 37))] ?_)))))))
 exact mR (v:=(vs (nb ρ2 1) l.length (aZ ρ2 1))) (fun _ hS=>⟨{ n:=[nb ρ2 1,aZ ρ2 1],o:=[.cells C 0 (0,0)],s:=L},congrArg (fun z=>Ending.returned (.slice _ z _)) hLl.symm,hS.bel,(hS.newb (.head _)).1,(hS.newb (.head _)).2,sK.all (l:=L) (oA (yF hb1)) hN,(hS.scs (.head _) (fun w hF=>hF.2.1) (sK.all (oA (yF hb1)) hN) hT).mono (fun _ h=>⟨h,hA,hL⟩)⟩)
theorem eX {s:Mk} (h:s.can=true):0<s.ts.length:=by
 unfold Mk.can at h
 simp only [Bool.and_eq_true,decide_eq_true_eq] at h
 exact h.1
theorem vV {s:Mk} (h:s.can=true):o7 s.fst.kd s.fst.m s.fst.nu s.fst.h s.fst.ks.length:=by
 unfold Mk.can at h
 simp only [Bool.and_eq_true] at h
 exact (xAT _ _ _ _ _).1 h.2.1
theorem fE {s:Mk} (h:s.can=true):s.fst.ks.length≤s.ns.length:=by
 unfold Mk.can at h
 simp only [Bool.and_eq_true,decide_eq_true_eq] at h
 exact h.2.2
theorem gU_take {ns:List Nat} {n:Nat} (h:0<n):gU (ns.take n) 0=ns.getD 0 0:=by
 cases ns with
 | nil=>simp [gU]
 | cons x r => cases n with
   | zero=>omega
   | succ n=>rfl
theorem bM.go {w:World} {s:Mk} (hc:s.can=true) (h:bM w s.ta s.tc s.ts):bM w s.go.ta s.go.tc s.go.ts:=h.tail (eX hc)
theorem Us.go {w:World} {s:Mk} (hc:s.can=true) (h:Us w s.ka s.kc s.ns):Us w s.go.ka s.go.kc s.go.ns:=h.drop (fE hc)
structure Left (s s':Mk):Prop where
 t:∀ w,bM w s.ta s.tc s.ts→bM w s'.ta s'.tc s'.ts
 u:∀ w,Us w s.ka s.kc s.ns→Us w s'.ka s'.kc s'.ns
 m:∀ x∈s'.ts,x∈s.ts
theorem Left.go {s:Mk} (hc:s.can=true):Left s s.go:=⟨fun _=>bM.go hc,fun _=>Us.go hc,fun _ hx=>List.mem_of_mem_tail hx⟩
theorem Left.trans {a b c:Mk} (h:Left a b) (k:Left b c):Left a c:=⟨fun w x=>k.t w (h.t w x),fun w x=>k.u w (h.u w x),fun x hx=>h.m x (k.m x hx)⟩
def nxS (s:Mk):Mk:=((nx 8 s).map (·.2)).getD s
theorem nxS_eq {s:Mk} {b:List UInt8} (h:∃ s',nx 8 s=some (b,s')):nx 8 s=some (b,nxS s):=by
 obtain ⟨s',h⟩:=h
 unfold nxS
 rw [h];rfl
section
variable {ts : List bW} {z : Int}
theorem ex_err (h:(kZ ts z != 0)=true):pX ts z=kZ ts z∧wG ts z=[]:=by
 have e:pX ts z=kZ ts z:=by unfold pX;rw [if_neg (iK h)]
 exact ⟨e,by unfold wG;rw [e,if_neg (iK h)]⟩
theorem wQ (h0:(kZ ts z != 0)=false) (h:decide (520<(((xP ts z).length:Nat):Int))=true):pX ts z=4∧wG ts z=[]:=by
 have:=of_decide_eq_true h
 have e:pX ts z=4:=by unfold pX;rw [if_pos (dD h0),if_pos (by omega)]
 exact ⟨e,by unfold wG;rw [e];rfl⟩
theorem ex_ok (h0:(kZ ts z != 0)=false) (h:decide (520<(((xP ts z).length:Nat):Int))=false):pX ts z=0∧wG ts z=xP ts z:=by
 have:=of_decide_eq_false h
 have e:pX ts z=0:=by unfold pX;rw [if_pos (dD h0),if_neg (by omega)]
 exact ⟨e,by unfold wG;rw [if_pos e]⟩
end
theorem wX (g:Nat) (n:Nat) (pa:Nat→Option Addr) (pc:Nat→Nat) (pB:Nat→List UInt8) (hn:n≤16) (hl:(mZ pB n).length≤140737488351232) (h0:0<(pB 0).length) (w0:World) (hf0:Kb w0 g (xO n pa pc pB)) (hf1:rO w0 n pa pc pB):Calls prog 137 #[vs g n n] w0 (fun ε w'=>∃ α κ,ε=.returned (.slice α (mZ pB n).length κ)∧jG w0 w'∧Fs w0 w' α κ (mZ pB n)):=by
 refine Calls.of_ok (n:=17) (F:=(fun w=>Kb w g (xO n pa pc pB)∧rO w n pa pc pB∧True)) func137 rfl rfl rfl (by simp) (hf0.pers0.and (hf1.pers0.and cO)) (jJ f137 1 [0,2] [vz] (jJ f137 1 [0,2,3] [vz] (aB (jJ f137 3 [2,3,6,7,8] [vs g n n,vn n,vi 0] (aI ?_)))))
 refine oL (σ:=Nat ⊕ (Nat × Nat × (List UInt8) × (Array Value) × Nat)) (fun s=>match s with | Sum.inl i=>[(2,vz),(3,vz),(6,(vs g n n)),(7,(vn n)),(8,(vn i))] | Sum.inr ⟨i,q,X,_,κ⟩=>[(2,vz),(3,(vs q X.length κ)),(6,(vs g n n)),(7,(vn n)),(8,(vn i))]) (fun s=>match s with | Sum.inl _=>[] | Sum.inr ⟨_,q,_,C,_⟩=>[(q,(cL C 5))]) (fun s=>match s with | Sum.inl i=>n-i | Sum.inr ⟨i,_,_,_,_⟩=>n-i)
  (fun s=>match s with | Sum.inl i=>(i≤n)∧(i=0) | Sum.inr ⟨i,_,X,C,κ⟩=>(i≤n)∧(X=mZ pB i)∧(Hd C X)∧(C.size=κ)∧(X.length≤κ)) (Sum.inl 0) (⟨Nat.zero_le _,rfl⟩) [] ?_
 rintro (i | ⟨i,q,X,C,κ⟩)
 ·rintro ⟨hi,h0i⟩
  refine jJ f137 1 [2,3,6,7,8,9] [.bool (decide (((i:Nat):Int)<((n:Nat):Int)))] (aB (oC (decide (((i:Nat):Int)<((n:Nat):Int))) (fun hb1=>?_) (fun hb1=>?_)))
  ·rw [hb1]
   have:=yT hb1
   refine aG (aA (aB (aI (sS f137 3 [2,3,5,6,7,8] [] (fun _=>let qa:Value:=.slice (pa i) (pB i).length (pc i);[jp g i,qa,qa]) (fun _=>[]) (cX (qS (fun _ w=>sO (g:=g) (c:=n) (k:=.i64) underlying29 sizeOf37 (show ((i:Nat):Int)=((i:Nat):Int) from rfl) (show i<n from om) w))<|cX (qF (v:=fun ρ=>(.slice (pa i) (pB i).length (pc i))) (fun _ _ _ hG=>mY (off:=i) isAgg37 hG.fn.1 (uX om)))<|jE [[]]) (fun _=>rS f137 4 [2,3,6,7,8] [] (fun ρ=>let qa:=vs (nb ρ 2) (pB i).length ((pB i).length+aZ ρ 2);[vz,.slice (pa i) (pB i).length (pc i),qa,qa]) (fun ρ=>[(2,(nw ρ 2 (cL ((bs (pB i)).toArray++zB (aZ ρ 2)) 5)))]) (cR [[],[]]<|cX (qN (fun _ ζ=>(vs (ζ.headD 0) (pB i).length ((pB i).length+ζ.tail.headD 0))) (fun _ ζ=>(cL ((bs (pB i)).toArray++zB (ζ.tail.headD 0)) 5)) (fun _ _ _ hG=>oU (ty:=37) underlying37 nH (Bs.src (tx:=37) underlying37 (hG.fn.2.1 i om)) (by rw [h0i];exact h0) (by have h1:=(sH pB (show i<n by omega));omega)))<|jE [[]]) (fun ρ6=>aJ (aA (rS f137 2 [2,3,6,7,8] [] (fun _=>[vn (i+1),vn (i+1)]) (fun _=>[]) (jW (fun ρ=>(((i:Nat):Int)+1)) (fun _=>(i+1)) (fun _=>(aW i 1 om))<|jE [[]]) (fun _=>?_)))))))))
   exact mN (Sum.inr (i+1,nb ρ6 2,pB i,(bs (pB i)).toArray++zB (aZ ρ6 2),(pB i).length+aZ ρ6 2)) (by show n-(i+1)<n-i;omega) (⟨om,(by rw [h0i];rfl),Hd.fresh _ _,xAR _ _,Nat.le_add_right _ _⟩) []
  rw [hb1]
  refine bF (aN (aN (aT (aA (jJ f137 2 [2] [vz,vz] (aF (mD [(2,vz)] [] ?_)))))))
  exact mR (v:=vz) (fun _ hS=>⟨none,0,congrArg Ending.returned (by rw [← (show ([]:List UInt8)=mZ pB n by rw [show n=0 by have:=yF hb1;omega];rfl)];rfl),hS.bel,dU (show ([]:List UInt8)=mZ pB n by rw [show n=0 by have:=yF hb1;omega];rfl) Fs.nil⟩)
 rintro ⟨hi,hX,hC,hs,hle⟩
 refine jJ f137 1 [2,3,6,7,8,9] [.bool (decide (((i:Nat):Int)<((n:Nat):Int)))] (aB (oC (decide (((i:Nat):Int)<((n:Nat):Int))) (fun hb2=>?_) (fun hb2=>?_)))
 ·rw [hb2]
  have:=yT hb2
  refine aG (aA (aB (aI (sS f137 3 [2,3,5,6,7,8] [] (fun _=>let qa:Value:=.slice (pa i) (pB i).length (pc i);[jp g i,qa,qa]) (fun _=>[]) (cX (qS (fun _ w=>sO (g:=g) (c:=n) (k:=.i64) underlying29 sizeOf37 (show ((i:Nat):Int)=((i:Nat):Int) from rfl) (show i<n from om) w))<|cX (qF (v:=fun ρ=>(.slice (pa i) (pB i).length (pc i))) (fun _ _ _ hG=>mY (off:=i) isAgg37 hG.fn.1 (uX om)))<|jE [[]]) (fun _=>rSf f137 4 [2,3,6,7,8] [] (fun ρ=>let qa:=vs (nb ρ 2) (X++(pB i)).length (aZ ρ 2);[vs q X.length κ,.slice (pa i) (pB i).length (pc i),qa,qa]) (fun ρ=>[(2,(bD 0 (nb ρ 2) (cL (oc ρ 2) 5)))]) (fun ρ=>[(2,fun w=>Ap (oc ρ 2) (X++(pB i)) (aZ ρ 2))]) (fun _=>(fun w=>Kb w g (xO n pa pc pB)∧rO w n pa pc pB∧True)) (fun ρ=>Ap (oc ρ 2) (X++(pB i)) (aZ ρ 2)) (fun _ _ hF hf=>⟨hF,hf 2⟩) (cR [[],[]]<|cX (qM 0 (fun _ _ _ hG hg=>app_any (ty:=37) (g:=q) (C:=C) (c:=κ) (xs:=X) underlying37 nH (Ap.mk' hC hle (by rw [hX];exact Nat.le_trans (catB_le pB hi) hl) hs) (Bs.src (tx:=37) underlying37 (hG.fn.2.1 i om)) (by have h1:=(sH pB (show i<n by omega));rw [← hX] at h1;exact Nat.le_trans h1 hl) hg))<|jE [[]]) (fun ρ11 ap11_2=>aJ (aA (rS f137 2 [2,3,6,7,8] [] (fun _=>[vn (i+1),vn (i+1)]) (fun _=>[]) (jW (fun ρ=>(((i:Nat):Int)+1)) (fun _=>(i+1)) (fun _=>(aW i 1 om))<|jE [[]]) (fun _=>?_)))))))))
  exact mN (Sum.inr (i+1,nb ρ11 2,X++(pB i),oc ρ11 2,aZ ρ11 2)) (by show n-(i+1)<n-i;omega) (⟨om,(by rw [hX];rfl),ap11_2.hd,ap11_2.size,ap11_2.le⟩) []
 rw [hb2]
 refine bF (aN (aN (aT (aA (jJ f137 2 [2] [vs q X.length κ,vs q X.length κ] (aF (mD [(2,(vs q X.length κ))] [(q,(cL C 5))] ?_)))))))
 exact mR (v:=(vs q X.length κ)) (fun _ hS=>⟨some ⟨q,0,none⟩,κ,congrArg Ending.returned (by rw [← (show X=mZ pB n from hX.trans (by rw [show i=n by have:=yF hb2;omega]))]),hS.bel,dU (show X=mZ pB n from hX.trans (by rw [show i=n by have:=yF hb2;omega])) (hS.fresh (.head _) hC hle (by rw [hX];exact Nat.le_trans (catB_le pB hi) hl))⟩)
theorem scrow2_any (g:Nat) (a0:Option Addr) (c0:Nat) (B0:List UInt8) (a1:Option Addr) (c1:Nat) (B1:List UInt8) (hl:B0.length+B1.length≤140737488351232) (h0:0<B0.length) (w0:World) (hf0:Kb w0 g #[.slice a0 B0.length c0,.slice a1 B1.length c1]) (hf1:Bs w0 a0 c0 B0) (hf2:Bs w0 a1 c1 B1):Calls prog 137 #[.slice (some ⟨g,0,none⟩) 2 2] w0 (fun ε w'=>∃ α κ,ε=.returned (.slice α (B0++B1).length κ)∧jG w0 w'∧Fs w0 w' α κ (B0++B1)):=wX g 2 (fun k=>[a0,a1].getD k none) (fun k=>[c0,c1].getD k 0) (fun k=>[B0,B1].getD k []) (by decide) (by show (([]++B0)++B1).length≤_;simp only [List.length_append,List.length_nil];omega) h0 w0 hf0 (allB2 hf1 hf2)
theorem push_any (a:Option Addr) (c:Nat) (B:List UInt8) (hl:B.length≤255) (w0:World) (hf0:Bs w0 a c B):Calls prog 138 #[.slice a B.length c] w0 (fun ε w'=>∃ α κ,ε=.returned (.slice α (bQ B).length κ)∧jG w0 w'∧Fs w0 w' α κ (bQ B)):=by
 refine Calls.of_ok (n:=10) (F:=(fun w=>Bs w a c B∧True)) func138 rfl rfl rfl (by simp) (hf0.pers0.and cO) (jJ f138 1 [0,2] [vz] (iZ f138 8 [2] [0,0] (fun ρ=>let qa:=([ob 1,ob ((B.length:Nat):Int)]:List UInt8);let qb:Value:=.slice (oa ρ 6) (qa++B).length (nb ρ 6);[.slice a B.length c,vn B.length,vy B.length,vs (nb ρ 3) qa.length 2,.slice a B.length c,vs (nb ρ 5) 2 2,qb,qb]) (fun ρ=>[(3,(nw ρ 3 (cL #[.int .u8 1,vy B.length] 5))),(5,(nw ρ 5 (cL #[vs (nb ρ 3) ([ob 1,ob ((B.length:Nat):Int)]:List UInt8).length 2,.slice a B.length c] 37)))]) (fun ρ=>[(6,fun w=>Fs w0 w (oa ρ 6) (nb ρ 6) (([ob 1,ob ((B.length:Nat):Int)]:List UInt8)++B))]) (fun ρ=>(fun w=>Bs w a c B∧Fs w0 w (oa ρ 6) (nb ρ 6) (([ob 1,ob ((B.length:Nat):Int)]:List UInt8)++B)∧True)) (fun _=>True) (fun _ _ hF hf=>⟨⟨hF.1,hf 6,trivial⟩,trivial⟩) (cR [[],[]]<|cA (v:=fun ρ=>(.int .u8 (IntKind.u8.wrap ((B.length:Nat):Int)))) (fun _=>(vy B.length)) (fun _=>congrArg (Value.int .u8) (u8N om))<|cR [[],[],[]]<|cX (qB (fun ρ _ w hG=>scrow2_any (nb ρ 5) (some ⟨nb ρ 3,0,none⟩) 2 ([ob 1,ob ((B.length:Nat):Int)]:List UInt8) a c B (by simp only [List.length_cons,List.length_nil];omega) (Nat.zero_lt_succ _) w (Kb.of_block (hG.kn (g:=nb ρ 5) (o:=(cL #[vs (nb ρ 3) ([ob 1,ob ((B.length:Nat):Int)]:List UInt8).length 2,.slice a B.length c] 37)) 40)) (Bs.of_hd (hG.kn (g:=nb ρ 3) (o:=(cL #[.int .u8 1,vy B.length] 5)) 24) (hd2 (by decide) om) (Nat.le_refl 2) (Nat.le_of_ble_eq_true rfl)) hG.fn.1))<|jE [[]]) (fun ρ2 _=>aF (mD [(2,(.slice (oa ρ2 6) (([ob 1,ob ((B.length:Nat):Int)]:List UInt8)++B).length (nb ρ2 6)))] [] ?_))))
 exact mR (v:=(.slice (oa ρ2 6) (([ob 1,ob ((B.length:Nat):Int)]:List UInt8)++B).length (nb ρ2 6))) (fun _ hS=>⟨oa ρ2 6,nb ρ2 6,congrArg Ending.returned (rfl),hS.bel,dU (rfl) hS.facts.now.2.1⟩)
theorem single_any (p:Nat) (_hp:p<M) (w0:World):Calls prog 106 #[U p] w0 (fun ε w'=>∃ α κ,ε=.returned (.slice α (sgB p).length κ)∧jG w0 w'∧Fs w0 w' α κ (sgB p)):=by
 refine Calls.of_ok (n:=11) (F:=(fun _=>True)) func106 rfl rfl rfl (by simp) jT (sS f106 2 [1,2] [] (fun ρ=>[pt (nb ρ 0),vz]) (fun ρ=>[(0,(nw ρ 0 (cL (cU p) 64)))]) (jE [[],[]]) (fun _=>sS f106 4 [2,3] [0,1] (fun ρ=>[U p,.agg (hB p),pt (nb ρ 2),undef]) (fun ρ=>[(2,(nw ρ 2 (cL (hB 0) 57))),(3,(bD 17 (nb ρ 2) (cL (hB p) 57)))]) (cR [[0]]<|cC (fun _ w=>pW p w)<|jE [[],[17]]) (fun ρ2=>iZ f106 6 [2] [0,0,0] (fun ρ=>let qa:Value:=.slice (oa ρ 4) ((bQ (hL p))++([10]:List UInt8)).length (nb ρ 4);[vs (nb ρ2 2) (hL p).length 32,.slice (oa ρ 1) (bQ (hL p)).length (nb ρ 1),vs (nb ρ 2) ([10]:List UInt8).length 1,vs (nb ρ 3) 2 2,qa,qa]) (fun ρ=>[(2,(nw ρ 2 (cL #[.int .u8 10] 5))),(3,(nw ρ 3 (cL #[.slice (oa ρ 1) (bQ (hL p)).length (nb ρ 1),vs (nb ρ 2) ([10]:List UInt8).length 1] 37)))]) (fun ρ=>[(1,fun w=>Fs w0 w (oa ρ 1) (nb ρ 1) (bQ (hL p))),(4,fun w=>Fs w0 w (oa ρ 4) (nb ρ 4) ((bQ (hL p))++([10]:List UInt8)))]) (fun ρ=>(fun w=>Fs w0 w (oa ρ 1) (nb ρ 1) (bQ (hL p))∧Fs w0 w (oa ρ 4) (nb ρ 4) ((bQ (hL p))++([10]:List UInt8))∧True)) (fun _=>True) (fun _ _ _ hf=>⟨⟨hf 1,hf 4,trivial⟩,trivial⟩) (cR [[]]<|cX (qB (fun _ _ w hG=>push_any (some ⟨nb ρ2 2,0,none⟩) 32 (hL p) (by rw [aO];decide) w (Bs.of_hd (c:=32) (hG.kn (g:=nb ρ2 2) (o:=(cL (hB p) 57)) 0) (tN _) (Nat.le_refl _) (Nat.le_of_ble_eq_true rfl))))<|cR [[],[]]<|cX (qB (fun ρ _ w hG=>scrow2_any (nb ρ 3) (oa ρ 1) (nb ρ 1) (bQ (hL p)) (some ⟨nb ρ 2,0,none⟩) 1 ([10]:List UInt8) (by simp only [List.length_cons,List.length_nil,eG,aO];omega) (qY _) w (Kb.of_block (hG.kn (g:=nb ρ 3) (o:=(cL #[.slice (oa ρ 1) (bQ (hL p)).length (nb ρ 1),vs (nb ρ 2) ([10]:List UInt8).length 1] 37)) 25)) (show Fs w0 w (oa ρ 1) (nb ρ 1) (bQ (hL p)) from (hG.facts 1 rfl).now).1 (Bs.of_hd (hG.kn (g:=nb ρ 2) (o:=(cL #[.int .u8 10] 5)) 17) (rfl:Hd #[.int .u8 10] ([10]:List UInt8)) (Nat.le_refl 1) (Nat.le_of_ble_eq_true rfl))))<|jE [[]]) (fun ρ3 _=>aF (mD [(2,(.slice (oa ρ3 4) ((bQ (hL p))++([10]:List UInt8)).length (nb ρ3 4)))] [] ?_)))))
 exact mR (v:=(.slice (oa ρ3 4) ((bQ (hL p))++([10]:List UInt8)).length (nb ρ3 4))) (fun _ hS=>⟨oa ρ3 4,nb ρ3 4,congrArg Ending.returned (rfl),hS.bel,dU (rfl) hS.facts.now.2.1⟩)
def mkO (s:Mk):Obj:=(.cells #[.slice s.ta s.ts.length s.tc,.slice s.ka s.ns.length s.kc] 113 (0,0))
def NextC (g:Nat) (s:Mk) (b:List UInt8) (s':Mk):Prop:=∀ w0:World,Knows [(g,mkO s)] w0→dL (fun x=>x∈([(g,mkO s)]:List (Nat × Obj)).map (·.1)) (fun w=>bM w s.ta s.tc s.ts∧Us w s.ka s.kc s.ns∧True) w0→Calls prog 80 #[pt g] w0 (fun ε w'=>∃ α κ,ε=.returned (.tuple #[.slice α b.length κ,.int .i64 0])∧nN (fun b=>b∈([(g,mkO s)]:List (Nat × Obj)).map (·.1)) w0 w'∧Knows [(g,mkO s')] w'∧Fs w0 w' α κ b)
theorem next1_any (g:Nat) (s:Mk) (hk:s.fst.kd=1) (hc:s.can=true) (_ho:mP s.ts) (hU:∀ n∈s.ns,n<M) (w0:World) (hK:Knows [(g,(cL #[.slice s.ta s.ts.length s.tc,.slice s.ka s.ns.length s.kc] 113))] w0) (hP:dL (fun b=>b∈([(g,(cL #[.slice s.ta s.ts.length s.tc,.slice s.ka s.ns.length s.kc] 113))]:List (Nat × Obj)).map (·.1)) (fun w=>bM w s.ta s.tc s.ts∧Us w s.ka s.kc s.ns∧True) w0):Calls prog 80 #[pt g] w0 (fun ε w'=>∃ α κ,ε=.returned (.tuple #[.slice α (sgB (s.ns.getD 0 0)).length κ,.int .i64 0])∧nN (fun b=>b∈([(g,(cL #[.slice s.ta s.ts.length s.tc,.slice s.ka s.ns.length s.kc] 113))]:List (Nat × Obj)).map (·.1)) w0 w'∧Knows [(g,(cL #[.slice s.go.ta s.go.ts.length s.go.tc,.slice s.go.ka s.go.ns.length s.go.kc] 113))] w'∧Fs w0 w' α κ (sgB (s.ns.getD 0 0))):=by
 refine Calls.of_okW (n:=97) (F:=(fun w=>bM w s.ta s.tc s.ts∧Us w s.ka s.kc s.ns∧True)) [(g,(cL #[.slice s.ta s.ts.length s.tc,.slice s.ka s.ns.length s.kc] 113))] func80 rfl rfl rfl (by simp) hK (by simp) hP (jJ f80 2 [0,2,3] [vz,vi 0] (sS f80 8 [0,2,3,4] [] (fun ρ=>[pt g,pt g,pt g,.slice s.ta s.ts.length s.tc,.pointer (fK s.ta (0*36)),.agg (bW.row (gT s.ts 0)),pt (nb ρ 6),undef]) (fun ρ=>[(6,(nw ρ 6 (cL (iC 0 0 0 0 vz) 60))),(7,(bD 49 (nb ρ 6) (cL (bW.row (gT s.ts 0)) 60)))]) (cR [[],[],[],[0]]<|cX (qF (fun _ _ _ hG=>bM.idx (k:=.i64) underlying24 sizeOf60 hG.fn.1 rfl (show (0:Int)=((0:Nat):Int) from rfl) (show 0<s.ts.length from eX hc)))<|cX (qF (fun _ _ _ hG=>bM.ldA (i:=0) isAgg60 sizeOf60 hG.fn.1 (show 0<s.ts.length from eX hc)))<|jE [[],[49]]) (fun ρ2=>iZ f80 9 [0,2,3,4] [] (fun _=>[pt g,pt g,pt g,pt g,.slice s.ta s.ts.length s.tc,.slice (jA s.ta s.tc 1 36) s.ts.tail.length (s.tc-1),pt g,pt g,undef]) (fun _=>[(8,(bD 0 g (cL #[.slice (jA s.ta s.tc 1 36) s.ts.tail.length (s.tc-1),.slice s.ka s.ns.length s.kc] 113)))]) (fun _=>[(5,fun w=>bM w (jA s.ta s.tc 1 36) (s.tc-1) s.ts.tail)]) (fun _=>(fun w=>bM w s.ta s.tc s.ts∧Us w s.ka s.kc s.ns∧bM w (jA s.ta s.tc 1 36) (s.tc-1) s.ts.tail∧True)) (fun _=>True) (fun _ _ hF hf=>⟨⟨hF.1,hF.2.1,hf 5,trivial⟩,trivial⟩) (cR [[],[],[],[],[0]]<|cX (jF (fun _=>Instr.sliceAt 24 (.slice s.ta s.ts.length s.tc) (some (vi 1)) none none) (fun _=>(.slice (jA s.ta s.tc 1 36) s.ts.tail.length (s.tc-1))) (fun _ _ _ hG=>fP (k:=1) underlying24 sizeOf60 rfl (jI (rfl)) (eX hc) hG.fn.1.le (by rw [List.length_tail])) (fun _ _ w hG=>hG.facts0.mono (fun _ hF=>hF.1.tail (eX hc))))<|jE [[],[],[0]]) (fun _ _=>sDf f80 [0,1,3,7,0,16,48,127,255] 9 [0,2,3,4,5] [] (fun _=>let qa:Value:=.slice s.ka (s.ns.take (gT s.ts 0).ks.length).length s.kc;[pt g,pt g,jp g 1,.slice s.ka s.ns.length s.kc,jp (nb ρ2 6) 35,.slice (gT s.ts 0).ka (gT s.ts 0).ks.length (gT s.ts 0).kc,vn (gT s.ts 0).ks.length,qa,qa]) (fun _=>[]) (fun _=>[(7,fun w=>Us w s.ka s.kc (s.ns.take (gT s.ts 0).ks.length))]) (fun _=>(fun w=>bM w s.ta s.tc s.ts∧Us w s.ka s.kc s.ns∧bM w (jA s.ta s.tc 1 36) (s.tc-1) s.ts.tail∧Us w s.ka s.kc (s.ns.take (gT s.ts 0).ks.length)∧True)) (fun _=>True) (fun _ _ hF hf=>⟨⟨hF.1,hF.2.1,hF.2.2.1,hf 7,trivial⟩,trivial⟩) (cR [[],[],[],[0],[],[1],[]]<|cX (jF (fun _=>Instr.sliceAt 80 (.slice s.ka s.ns.length s.kc) none (some (vn (gT s.ts 0).ks.length)) none) (fun _=>(.slice s.ka (s.ns.take (gT s.ts 0).ks.length).length s.kc)) (fun _ _ _ hG=>pY (k:=(gT s.ts 0).ks.length) underlying80 sizeOf64 rfl (jI (rfl)) (fE hc) hG.fn.2.1.le (by rw [List.length_take];exact (Nat.min_eq_left (fE hc)).symm)) (fun _ _ w hG=>hG.facts0.mono (fun _ hF=>hF.2.1.take (gT s.ts 0).ks.length)))<|jE [[]]) (fun _ _=>sDf f80 [0,0,2,6,14,0,32,96,254,511,1023,2047] 12 [0,2,3,4,5] [] (fun _=>[pt g,pt g,pt g,jp g 1,.slice s.ka s.ns.length s.kc,jp (nb ρ2 6) 35,.slice (gT s.ts 0).ka (gT s.ts 0).ks.length (gT s.ts 0).kc,vn (gT s.ts 0).ks.length,.slice (jA s.ka s.kc (gT s.ts 0).ks.length 4) (s.ns.drop (gT s.ts 0).ks.length).length (s.kc-(gT s.ts 0).ks.length),pt g,jp g 1,undef]) (fun _=>[(11,(bD 0 g (cL #[.slice (jA s.ta s.tc 1 36) s.ts.tail.length (s.tc-1),.slice (jA s.ka s.kc (gT s.ts 0).ks.length 4) (s.ns.drop (gT s.ts 0).ks.length).length (s.kc-(gT s.ts 0).ks.length)] 113)))]) (fun _=>[(8,fun w=>Us w (jA s.ka s.kc (gT s.ts 0).ks.length 4) (s.kc-(gT s.ts 0).ks.length) (s.ns.drop (gT s.ts 0).ks.length))]) (fun _=>(fun w=>bM w s.ta s.tc s.ts∧Us w s.ka s.kc s.ns∧bM w (jA s.ta s.tc 1 36) (s.tc-1) s.ts.tail∧Us w s.ka s.kc (s.ns.take (gT s.ts 0).ks.length)∧Us w (jA s.ka s.kc (gT s.ts 0).ks.length 4) (s.kc-(gT s.ts 0).ks.length) (s.ns.drop (gT s.ts 0).ks.length)∧True)) (fun _=>True) (fun _ _ hF hf=>⟨⟨hF.1,hF.2.1,hF.2.2.1,hF.2.2.2.1,hf 8,trivial⟩,trivial⟩) (cR [[],[],[],[],[0],[],[1],[]]<|cX (jF (fun _=>Instr.sliceAt 80 (.slice s.ka s.ns.length s.kc) (some (vn (gT s.ts 0).ks.length)) none none) (fun _=>(.slice (jA s.ka s.kc (gT s.ts 0).ks.length 4) (s.ns.drop (gT s.ts 0).ks.length).length (s.kc-(gT s.ts 0).ks.length))) (fun _ _ _ hG=>fP (k:=(gT s.ts 0).ks.length) underlying80 sizeOf64 rfl (jI (rfl)) (fE hc) hG.fn.2.1.le (by rw [List.length_drop])) (fun _ _ w hG=>hG.facts0.mono (fun _ hF=>hF.2.1.drop (fE hc))))<|jE [[],[],[0]]) (fun _ _=>aB (jM f80 2 [0,2,3,4,5,43] [] [pt (nb ρ2 6),vi (gT s.ts 0).kd] [[],[1]] (aI (sS f80 2 [0,2,3,4,5,43,44] [] (fun _=>[vT,vT]) (fun _=>[]) (jQ (fun ρ=>((gT s.ts 0).kd==1)) true (fun _=>(jK hk rfl))<|jE [[]]) (fun _=>lK [(0,(pt g)),(2,vz),(3,(vi 0)),(4,(pt (nb ρ2 6))),(5,(.slice s.ka (s.ns.take (gT s.ts 0).ks.length).length s.kc)),(43,(vi (gT s.ts 0).kd)),(44,vT)] [(g,(cL #[.slice (jA s.ta s.tc 1 36) s.ts.tail.length (s.tc-1),.slice (jA s.ka s.kc (gT s.ts 0).ks.length 4) (s.ns.drop (gT s.ts 0).ks.length).length (s.kc-(gT s.ts 0).ks.length)] 113)),(nb ρ2 6,(cL (bW.row (gT s.ts 0)) 60))] (oY (iZ f80 6 [0,2,3,4] [] (fun ρ=>let qa:Value:=.slice (oa ρ 3) (sgB (gU (s.ns.take (gT s.ts 0).ks.length) 0)).length (nb ρ 3);[.slice s.ka (s.ns.take (gT s.ts 0).ks.length).length s.kc,.pointer (fK s.ka (0*4)),U (gU (s.ns.take (gT s.ts 0).ks.length) 0),qa,qa,vi 0]) (fun _=>[]) (fun ρ=>[(3,fun w=>Fs w0 w (oa ρ 3) (nb ρ 3) (sgB (gU (s.ns.take (gT s.ts 0).ks.length) 0)))]) (fun ρ=>(fun w=>bM w s.ta s.tc s.ts∧Us w s.ka s.kc s.ns∧bM w (jA s.ta s.tc 1 36) (s.tc-1) s.ts.tail∧Us w s.ka s.kc (s.ns.take (gT s.ts 0).ks.length)∧Us w (jA s.ka s.kc (gT s.ts 0).ks.length 4) (s.kc-(gT s.ts 0).ks.length) (s.ns.drop (gT s.ts 0).ks.length)∧Fs w0 w (oa ρ 3) (nb ρ 3) (sgB (gU (s.ns.take (gT s.ts 0).ks.length) 0))∧True)) (fun _=>True) (fun _ _ hF hf=>⟨⟨hF.1,hF.2.1,hF.2.2.1,hF.2.2.2.1,hF.2.2.2.2.1,hf 3,trivial⟩,trivial⟩) (cR [[]]<|cX (qF (fun _ _ _ hG=>Us.idx (k:=.i64) underlying80 sizeOf64 hG.fn.2.2.2.1 rfl (show (0:Int)=((0:Nat):Int) from rfl) (show 0<(s.ns.take (gT s.ts 0).ks.length).length from (by rw [List.length_take];have e:(gT s.ts 0).ks.length=s.fst.ks.length:=rfl;have:=fE hc;have h1:0<s.fst.ks.length:=(by have:=vV hc;unfold o7 at this;omega);omega))))<|cX (qF (fun _ _ _ hG=>Us.ldA isAgg64 sizeOf64 hG.fn.2.2.2.1 (show 0<(s.ns.take (gT s.ts 0).ks.length).length from (by rw [List.length_take];have e:(gT s.ts 0).ks.length=s.fst.ks.length:=rfl;have:=fE hc;have h1:0<s.fst.ks.length:=(by have:=vV hc;unfold o7 at this;omega);omega))))<|cX (qB (fun _ _ w _=>single_any (gU (s.ns.take (gT s.ts 0).ks.length) 0) (gU_ok (fun n hn=>hU n (List.mem_of_mem_take hn)) 0) w))<|jE [[],[]]) (fun ρ8 _=>aF (aP (aC (mD [(0,(pt g)),(2,(.slice (oa ρ8 3) (sgB (gU (s.ns.take (gT s.ts 0).ks.length) 0)).length (nb ρ8 3))),(3,(vi 0)),(4,(pt (nb ρ2 6)))] [(g,(cL #[.slice (jA s.ta s.tc 1 36) s.ts.tail.length (s.tc-1),.slice (jA s.ka s.kc (gT s.ts 0).ks.length 4) (s.ns.drop (gT s.ts 0).ks.length).length (s.kc-(gT s.ts 0).ks.length)] 113)),(nb ρ2 6,(cL (bW.row (gT s.ts 0)) 60))] ?_))))))))))))))))
 exact mR (v:=(.tuple #[.slice (oa ρ8 3) (sgB (gU (s.ns.take (gT s.ts 0).ks.length) 0)).length (nb ρ8 3),vi 0])) (fun _ hS=>⟨oa ρ8 3,nb ρ8 3,congrArg (fun z:List UInt8=>Ending.returned (.tuple #[.slice _ z.length _,.int .i64 0])) (congrArg sgB (gU_take (show 0<s.fst.ks.length from (by have:=vV hc;unfold o7 at this;omega)))),hS.below,hS.knows [1,0],dU (congrArg sgB (gU_take (show 0<s.fst.ks.length from (by have:=vV hc;unfold o7 at this;omega)))) hS.facts.now.2.2.2.2.2.1⟩)
theorem next_one (g:Nat) (s:Mk) (b:List UInt8) (s':Mk) (h:nx 8 s=some (b,s')) (h2:∀ t∈s.ts,t.kd=1):NextC g s b s':=by
 intro w0 hK hP
 have ho:=hP.now.1.oks
 have hU:=hP.now.2.1.ok
 unfold nx at h
 split at h
 ·exact absurd h (by simp)
 rename_i hc
 have hc:s.can=true:=by simpa using hc
 have hk:s.fst.kd=1:=h2 _ (xAE (eX hc))
 rw [if_pos hk] at h
 simp only [Option.some.injEq,Prod.mk.injEq] at h;rw [← h.1,← h.2]
 exact next1_any g s hk hc ho hU w0 hK hP
theorem nextx_any {g:Nat} {a b:Option Addr} {c d:Nat} {ts:List bW} {z:Int} (h0:(kZ ts z != 0)=false) (h2:∀ t∈ts,t.kd=1):NextC g (Mk.mk a c ts b d (gV ts z)) (xP ts z) (nxS (Mk.mk a c ts b d (gV ts z))) :=
 next_one g _ _ _ (nxS_eq (nx_go (dD h0) a c b d)) h2
theorem dkids_any (z:Int) (w0:World):Calls prog 75 #[vi z] w0 (jR (vi (nO z)) w0):=by
 refine Calls.of_ok (n:=13) (F:=(fun _=>True)) func75 rfl rfl rfl (by simp) jT (jJ f75 1 [0,2] [vi 0] (aB (jJ f75 1 [2,3] [vi z] (aI (aB (jJ f75 2 [2,3,4] [.bool (z==1),.bool (z==1)] (oC (z==1) (fun hb1=>?_) (fun hb1=>?_))))))))
 ·rw [hb1]
  refine aG (aA (oY (jJ f75 1 [2] [vi 0] (aF (aP (aC ?_))))))
  exact mR (v:=(vi 0)) (fun _ hS=>⟨congrArg (fun x=>Ending.returned (vi x)) (kd_1 (oA (xQ hb1))),hS.bel⟩)
 rw [hb1]
 refine jL f75 2 [2,3,4] [] [.bool (z==2),.bool (z==2)] [[],[]] (aA (oC (z==2) (fun hb2=>?_) (fun hb2=>?_)))
 ·rw [hb2]
  refine jJ f75 1 [2] [vi 0] (aF (aP (aC ?_)))
  exact mR (v:=(vi 0)) (fun _ hS=>⟨congrArg (fun x=>Ending.returned (vi x)) (kd_1 (oB (jP hb1) (xQ hb2))),hS.bel⟩)
 rw [hb2]
 refine aB (jJ f75 2 [2,3,7] [.bool (z==3),.bool (z==3)] (oC (z==3) (fun hb3=>?_) (fun hb3=>?_)))
 ·rw [hb3]
  refine aG (aA (oY (jJ f75 1 [2] [vi 1] (aF (aP (aC ?_))))))
  exact mR (v:=(vi 1)) (fun _ hS=>⟨congrArg (fun x=>Ending.returned (vi x)) (kd_3 (by have:=jP hb1;have:=jP hb2;have:=xQ hb3;omega)),hS.bel⟩)
 rw [hb3]
 refine jJ f75 2 [2,3,7] [.bool (z==4),.bool (z==4)] (oC (z==4) (fun hb4=>?_) (fun hb4=>?_))
 ·rw [hb4]
  refine aG (aA (oY (jJ f75 1 [2] [vi 1] (aF (aP (aC ?_))))))
  exact mR (v:=(vi 1)) (fun _ hS=>⟨congrArg (fun x=>Ending.returned (vi x)) (kd_3 (by have:=jP hb1;have:=jP hb2;have:=jP hb3;have:=xQ hb4;omega)),hS.bel⟩)
 rw [hb4]
 refine jL f75 2 [2,3,7] [] [.bool (z==5),.bool (z==5)] [[],[]] (aA (oC (z==5) (fun hb5=>?_) (fun hb5=>?_)))
 ·rw [hb5]
  refine jJ f75 1 [2] [vi 1] (aF (aP (aC ?_)))
  exact mR (v:=(vi 1)) (fun _ hS=>⟨congrArg (fun x=>Ending.returned (vi x)) (kd_3 (by have:=jP hb1;have:=jP hb2;have:=jP hb3;have:=jP hb4;have:=xQ hb5;omega)),hS.bel⟩)
 rw [hb5]
 refine jJ f75 2 [2,11] [.bool (z==6),.bool (z==6)] (lK [(2,(vi 0)),(11,(.bool (z==6)))] [] (oC (z==6) (fun hb6=>?_) (fun hb6=>?_)))
 ·rw [hb6]
  refine jJ f75 1 [2] [vi 2] (aF (aP (aC ?_)))
  exact mR (v:=(vi 2)) (fun _ hS=>⟨congrArg (fun x=>Ending.returned (vi x)) (kd_6 (by have:=jP hb1;have:=jP hb2;have:=jP hb3;have:=jP hb4;have:=jP hb5;have:=xQ hb6;omega)),hS.bel⟩)
 rw [hb6]
 refine aG (aJ (aA (jJ f75 1 [2] [vi (-1)] (aF ?_))))
 exact mR (v:=(vi (-1))) (fun _ hS=>⟨congrArg (fun x=>Ending.returned (vi x)) (kd_0 (by have:=jP hb1;have:=jP hb2;have:=jP hb3;have:=jP hb4;have:=jP hb5;have:=jP hb6;omega)),hS.bel⟩)
theorem rdkids_any (z:Int) (w0:World):Calls prog 81 #[vi z] w0 (jR (vi (nO z)) w0):=by
 refine Calls.of_ok (n:=13) (F:=(fun _=>True)) func81 rfl rfl rfl (by simp) jT (jJ f81 1 [0,2] [vi 0] (aB (jJ f81 1 [2,3] [vi z] (aI (aB (jJ f81 2 [2,3,4] [.bool (z==1),.bool (z==1)] (oC (z==1) (fun hb1=>?_) (fun hb1=>?_))))))))
 ·rw [hb1]
  refine aG (aA (oY (jJ f81 1 [2] [vi 0] (aF (aP (aC ?_))))))
  exact mR (v:=(vi 0)) (fun _ hS=>⟨congrArg (fun x=>Ending.returned (vi x)) (kd_1 (oA (xQ hb1))),hS.bel⟩)
 rw [hb1]
 refine jL f81 2 [2,3,4] [] [.bool (z==2),.bool (z==2)] [[],[]] (aA (oC (z==2) (fun hb2=>?_) (fun hb2=>?_)))
 ·rw [hb2]
  refine jJ f81 1 [2] [vi 0] (aF (aP (aC ?_)))
  exact mR (v:=(vi 0)) (fun _ hS=>⟨congrArg (fun x=>Ending.returned (vi x)) (kd_1 (oB (jP hb1) (xQ hb2))),hS.bel⟩)
 rw [hb2]
 refine aB (jJ f81 2 [2,3,7] [.bool (z==3),.bool (z==3)] (oC (z==3) (fun hb3=>?_) (fun hb3=>?_)))
 ·rw [hb3]
  refine aG (aA (oY (jJ f81 1 [2] [vi 1] (aF (aP (aC ?_))))))
  exact mR (v:=(vi 1)) (fun _ hS=>⟨congrArg (fun x=>Ending.returned (vi x)) (kd_3 (by have:=jP hb1;have:=jP hb2;have:=xQ hb3;omega)),hS.bel⟩)
 rw [hb3]
 refine jJ f81 2 [2,3,7] [.bool (z==4),.bool (z==4)] (oC (z==4) (fun hb4=>?_) (fun hb4=>?_))
 ·rw [hb4]
  refine aG (aA (oY (jJ f81 1 [2] [vi 1] (aF (aP (aC ?_))))))
  exact mR (v:=(vi 1)) (fun _ hS=>⟨congrArg (fun x=>Ending.returned (vi x)) (kd_3 (by have:=jP hb1;have:=jP hb2;have:=jP hb3;have:=xQ hb4;omega)),hS.bel⟩)
 rw [hb4]
 refine jL f81 2 [2,3,7] [] [.bool (z==5),.bool (z==5)] [[],[]] (aA (oC (z==5) (fun hb5=>?_) (fun hb5=>?_)))
 ·rw [hb5]
  refine jJ f81 1 [2] [vi 1] (aF (aP (aC ?_)))
  exact mR (v:=(vi 1)) (fun _ hS=>⟨congrArg (fun x=>Ending.returned (vi x)) (kd_3 (by have:=jP hb1;have:=jP hb2;have:=jP hb3;have:=jP hb4;have:=xQ hb5;omega)),hS.bel⟩)
 rw [hb5]
 refine jJ f81 2 [2,11] [.bool (z==6),.bool (z==6)] (lK [(2,(vi 0)),(11,(.bool (z==6)))] [] (oC (z==6) (fun hb6=>?_) (fun hb6=>?_)))
 ·rw [hb6]
  refine jJ f81 1 [2] [vi 2] (aF (aP (aC ?_)))
  exact mR (v:=(vi 2)) (fun _ hS=>⟨congrArg (fun x=>Ending.returned (vi x)) (kd_6 (by have:=jP hb1;have:=jP hb2;have:=jP hb3;have:=jP hb4;have:=jP hb5;have:=xQ hb6;omega)),hS.bel⟩)
 rw [hb6]
 refine aG (aJ (aA (jJ f81 1 [2] [vi (-1)] (aF ?_))))
 exact mR (v:=(vi (-1))) (fun _ hS=>⟨congrArg (fun x=>Ending.returned (vi x)) (kd_0 (by have:=jP hb1;have:=jP hb2;have:=jP hb3;have:=jP hb4;have:=jP hb5;have:=jP hb6;omega)),hS.bel⟩)
theorem dwhole_any (a:Option Addr) (c:Nat) (ts:List bW) (w0:World) (hf0:bM w0 a c ts):Calls prog 52 #[.slice a ts.length c] w0 (jR (.bool (vG 1 ts)) w0):=by
 refine Calls.of_ok (n:=29) (F:=(fun w=>bM w a c ts∧True)) func52 rfl rfl rfl (by simp) (hf0.pers0.and cO) ?_
 have hlen:ts.length≤1000000:=hf0.max
 have ho:mP ts:=hf0.oks
 refine jJ f52 1 [0,2] [vF] (jJ f52 1 [0,2,3] [vi 1] (aB (jJ f52 3 [2,3,7,8,9] [.slice a ts.length c,vn ts.length,vi 0] (aI ?_))))
 refine oL (σ:=Nat × Int) (fun ⟨i,m⟩=>[(3,(vi m)),(7,(.slice a ts.length c)),(8,(vn ts.length)),(9,(vn i))]) (fun ⟨_,_⟩=>[]) (fun ⟨i,_⟩=>ts.length-i)
  (fun ⟨i,m⟩=>(i≤ts.length)∧(0≤m∧m≤1+(i:Int))∧(vG m (ts.drop i)=vG 1 ts)) (0,1) (⟨Nat.zero_le _,by decide,rfl⟩) [] ?_
 rintro ⟨i,m⟩ ⟨hi,hm,hr⟩
 refine jJ f52 1 [3,7,8,9,10] [.bool (decide (((i:Nat):Int)<((ts.length:Nat):Int)))] (aB (oC (decide (((i:Nat):Int)<((ts.length:Nat):Int))) (fun hb1=>?_) (fun hb1=>?_)))
 ·rw [hb1]
  have:=yT hb1
  refine aG (aA (aB (aI (sS f52 4 [3,5,7,8,9] [] (fun ρ=>[.pointer (fK a (i*36)),.agg (bW.row (gT ts i)),pt (nb ρ 2),undef]) (fun ρ=>[(2,(nw ρ 2 (cL (iC 0 0 0 0 vz) 60))),(3,(bD 16 (nb ρ 2) (cL (bW.row (gT ts i)) 60)))]) (cX (qF (fun _ _ _ hG=>bM.idx (k:=.i64) underlying24 sizeOf60 hG.fn.1 rfl (show ((i:Nat):Int)=((i:Nat):Int) from rfl) (show i<ts.length from om)))<|cX (qF (fun _ _ _ hG=>bM.ldA (i:=i) isAgg60 sizeOf60 hG.fn.1 (show i<ts.length from om)))<|jE [[],[16]]) (fun ρ5=>sS f52 4 [3,6,7,8,9] [0] (fun _=>[pt (nb ρ5 2),vi (gT ts i).kd,vi (nO (gT ts i).kd),vi (nO (gT ts i).kd)]) (fun _=>[]) (cR [[],[0]]<|cC (fun _ w=>dkids_any (gT ts i).kd w)<|jE [[]]) (fun _=>aB ?_))))))
  rcases Bool.eq_false_or_eq_true (m==0) with hb2 | hb2
  ·refine sS f52 6 [3,6,7,8,9,21] [] (fun _=>[vi m,vT,vT,undef,undef,vT]) (fun _=>[]) (cR [[]]<|cA (fun _=>vT) (fun _=>congrArg Value.bool hb2)<|jE [[],[],[],[]]) (fun _=>oY (jJ f52 1 [2,3,6,7,8,9] [vF] (aF (aC (aP (aC (aC (aP (aC ?_)))))))))
   exact mR (v:=vF) (fun _ hS=>⟨jB (wh_stop om (Or.inl (xQ hb2)) hr).symm,hS.bel⟩)
  refine sS f52 6 [3,6,7,8,9,21] [] (fun _=>let qa:Value:=.bool (decide ((nO (gT ts i).kd)<0));[vi m,vF,vF,vi (nO (gT ts i).kd),qa,qa]) (fun _=>[]) (cR [[]]<|cA (fun _=>vF) (fun _=>congrArg Value.bool hb2)<|jE [[],[],[],[]]) (fun _=>oC (decide ((nO (gT ts i).kd)<0)) (fun hb3=>?_) (fun hb3=>?_))
  ·rw [hb3]
   refine jJ f52 1 [2,3,6,7,8,9] [vF] (aF (aC (aP (aC (aC (aP (aC ?_)))))))
   exact mR (v:=vF) (fun _ hS=>⟨jB (wh_stop (oA (yT hb3)) (Or.inr (yT hb3)) hr).symm,hS.bel⟩)
  rw [hb3]
  have:=yF hb3
  refine aG (aA (rS f52 5 [3,7,8,9] [] (fun _=>let qa:=vi (m+(nO (gT ts i).kd-1));[vi m,vi (nO (gT ts i).kd),vi (nO (gT ts i).kd-1),qa,qa]) (fun _=>[]) (cR [[],[]]<|jU (fun ρ=>((nO (gT ts i).kd)-1)) (fun _=>(nO (gT ts i).kd-1)) (fun _=>(gZ (oA (zM (gT ts i).kd))))<|jU (fun ρ=>(m+(nO (gT ts i).kd-1))) (fun _=>(m+(nO (gT ts i).kd-1))) (fun _=>(gZ (oA (zM (gT ts i).kd))))<|jE [[]]) (fun _=>aJ (aA (rS f52 2 [3,7,8,9] [] (fun _=>[vn (i+1),vn (i+1)]) (fun _=>[]) (jW (fun ρ=>(((i:Nat):Int)+1)) (fun _=>(i+1)) (fun _=>(aW i 1 om))<|jE [[]]) (fun _=>?_))))))
  exact mN (i+1,m+(nO (gT ts i).kd-1)) (by show ts.length-(i+1)<ts.length-i;omega) (⟨om,by have:=zM (gT ts i).kd;have:=jP hb2;omega,wh_next om (jP hb2) (yF hb3) hr⟩) []
 rw [hb1]
 refine bF (aN (aN (aT (aA (jJ f52 3 [2] [vi m,.bool (m==0),.bool (m==0)] (aF ?_))))))
 exact mR (v:=(.bool (m==0))) (fun _ hS=>⟨jB ((beq_dec m).trans (wh_end (oA (yF hb1)) hr)),hS.bel⟩)
theorem rdshaped_any (a:Option Addr) (c:Nat) (ts:List bW) (w0:World) (hf0:bM w0 a c ts):Calls prog 59 #[.slice a ts.length c] w0 (jR (.bool (shB ts)) w0):=by
 refine Calls.of_ok (n:=40) (F:=(fun w=>bM w a c ts∧True)) func59 rfl rfl rfl (by simp) (hf0.pers0.and cO) ?_
 have hlen:ts.length≤1000000:=hf0.max
 have ho:mP ts:=hf0.oks
 refine jJ f59 1 [0,2] [vF] (jJ f59 1 [0,2,3] [vi 1] (aB (jJ f59 1 [0,2,3,4] [vi 0] (aI ?_))))
 refine oL (σ:=Nat × Int) (fun ⟨i,m⟩=>[(0,(.slice a ts.length c)),(3,(vi m)),(4,(vn i))]) (fun ⟨_,_⟩=>[]) (fun ⟨i,_⟩=>ts.length-i)
  (fun ⟨i,m⟩=>(i≤ts.length)∧(0≤m∧m≤1+(i:Int))∧(vG m (ts.drop i)=vG 1 ts)) (0,1) (⟨Nat.zero_le _,by decide,rfl⟩) [] ?_
 rintro ⟨i,m⟩ ⟨hi,hm,hr⟩
 refine aB (jJ f59 4 [0,3,4,9] [vn i,.slice a ts.length c,vn ts.length,.bool (decide (((i:Nat):Int)<((ts.length:Nat):Int)))] (oC (decide (((i:Nat):Int)<((ts.length:Nat):Int))) (fun hb1=>?_) (fun hb1=>?_)))
 ·rw [hb1]
  have:=yT hb1
  refine aG (aA (aB (aI (sS f59 7 [0,3,4,5] [] (fun _=>let qa:Value:=.pointer (fK a (i*36));[.slice a ts.length c,vn i,qa,qa,vi (gT ts i).kd,vi (nO (gT ts i).kd),vi (nO (gT ts i).kd)]) (fun _=>[]) (cR [[],[]]<|cX (qF (fun _ _ _ hG=>bM.idx (k:=.i64) underlying24 sizeOf60 hG.fn.1 rfl (show ((i:Nat):Int)=((i:Nat):Int) from rfl) (show i<ts.length from om)))<|cX (jF (fun _=>Instr.fieldAt 60 (.pointer (fK a (i*36))) 0) (fun _=>(.pointer (fK a (i*36)))) (fun _ _ _ hG=>uH (o:=0) (k:=i*36) underlying60 rfl rfl rfl sizeOf3 (hG.fn.1.pos (show i<ts.length from om)).1 (hG.fn.1.pos (show i<ts.length from om)).2) (fun _ _ _ _=>cO))<|cX (qF (fun _ _ _ hG=>bM.ld (v:=(vi (gT ts i).kd)) (i:=i) (j:=0) isAgg3 hG.fn.1 (show i<ts.length from om) (by decide) (by kernel_rfl)))<|cC (fun _ w=>rdkids_any (gT ts i).kd w)<|jE [[]]) (fun _=>aB ?_)))))
  rcases Bool.eq_false_or_eq_true (decide ((nO (gT ts i).kd)<0)) with hb2 | hb2
  ·refine sS f59 6 [0,3,4,5,23] [] (fun _=>[vi (nO (gT ts i).kd),vT,vT,undef,undef,vT]) (fun _=>[]) (cR [[]]<|cA (fun _=>vT) (fun _=>congrArg Value.bool hb2)<|jE [[],[],[],[]]) (fun _=>oY (jJ f59 1 [0,2,3,4,5] [vF] (aF (aC (aP (aC (aC (aP (aC ?_)))))))))
   exact mR (v:=vF) (fun _ hS=>⟨jB (show false=shB ts by unfold shB;rw [wh_stop (oA (yT hb2)) (Or.inr (yT hb2)) hr];rfl),hS.bel⟩)
  refine sS f59 6 [0,3,4,5,23] [] (fun _=>[vi (nO (gT ts i).kd),vF,vF,vi m,.bool (m==0),.bool (m==0)]) (fun _=>[]) (cR [[]]<|cA (fun _=>vF) (fun _=>congrArg Value.bool hb2)<|jE [[],[],[],[]]) (fun _=>oC (m==0) (fun hb3=>?_) (fun hb3=>?_))
  ·rw [hb3]
   refine jJ f59 1 [0,2,3,4,5] [vF] (aF (aC (aP (aC (aC (aP (aC ?_)))))))
   exact mR (v:=vF) (fun _ hS=>⟨jB (show false=shB ts by unfold shB;rw [wh_stop (oA (yF hb2)) (Or.inl (xQ hb3)) hr];rfl),hS.bel⟩)
  rw [hb3]
  refine aG (aA (rS f59 5 [0,3,4] [] (fun _=>let qa:=vi (m+(nO (gT ts i).kd-1));[vi m,vi (m-1),vi (nO (gT ts i).kd),qa,qa]) (fun _=>[]) (cR [[]]<|jU (fun ρ=>(m-1)) (fun _=>(m-1)) (fun _=>(gZ om))<|cR [[]]<|jU (fun ρ=>((m-1)+(nO (gT ts i).kd))) (fun _=>(m+(nO (gT ts i).kd-1))) (fun _=>((gZ (oA (zM (gT ts i).kd))).trans om))<|jE [[]]) (fun _=>aJ (aA (rS f59 3 [0,3,4] [] (fun _=>[vn i,vn (i+1),vn (i+1)]) (fun _=>[]) (cR [[]]<|jW (fun ρ=>(((i:Nat):Int)+1)) (fun _=>(i+1)) (fun _=>(aW i 1 (oA (yF hb2))))<|jE [[]]) (fun _=>?_))))))
  exact mN (i+1,m+(nO (gT ts i).kd-1)) (by show ts.length-(i+1)<ts.length-i;have:=yF hb2;omega) (⟨(oA (yF hb2)),by have:=zM (gT ts i).kd;have:=jP hb3;have:=yF hb2;omega,wh_next (oA (yF hb2)) (jP hb3) (yF hb2) hr⟩) []
 rw [hb1]
 have:=yF hb1
 refine bF (aN (aN (aT (aA ?_))))
 rcases Bool.eq_false_or_eq_true (m==0) with hb4 | hb4
 ·rcases Bool.eq_false_or_eq_true (decide (1≤((ts.length:Nat):Int))) with hb5 | hb5
  ·refine sS f59 13 [2] [] (fun _=>let qa:Value:=.bool (decide (((ts.length:Nat):Int)≤8));[vi m,vT,vT,.slice a ts.length c,vn ts.length,vT,vT,vT,.slice a ts.length c,vn ts.length,qa,qa,qa]) (fun _=>[]) (cR [[]]<|cA (fun _=>vT) (fun _=>congrArg Value.bool hb4)<|cR [[],[],[]]<|cA (fun _=>vT) (fun _=>congrArg Value.bool hb5)<|jE [[],[],[],[],[],[],[]]) (fun _=>aF ?_)
   exact mR (v:=(.bool (decide (((ts.length:Nat):Int)≤8)))) (fun _ hS=>⟨jB (sh_2 (wh_end (oA (yT hb5)) hr) hb4 hb5),hS.bel⟩)
  refine sS f59 13 [2] [] (fun _=>[vi m,vT,vT,.slice a ts.length c,vn ts.length,vF,vF,vF,undef,undef,undef,vF,vF]) (fun _=>[]) (cR [[]]<|cA (fun _=>vT) (fun _=>congrArg Value.bool hb4)<|cR [[],[],[]]<|cA (fun _=>vF) (fun _=>congrArg Value.bool hb5)<|jE [[],[],[],[],[],[],[]]) (fun _=>aF ?_)
  exact mR (v:=vF) (fun _ hS=>⟨jB (sh_1 (wh_end (oA (yF hb5)) hr) hb4 hb5),hS.bel⟩)
 refine sS f59 13 [2] [] (fun _=>[vi m,vF,vF,undef,undef,undef,vF,vF,undef,undef,undef,vF,vF]) (fun _=>[]) (cR [[]]<|cA (fun _=>vF) (fun _=>congrArg Value.bool hb4)<|jE [[],[],[],[],[],[],[],[],[],[],[]]) (fun _=>aF ?_)
 exact mR (v:=vF) (fun _ hS=>⟨jB (sh_0 (wh_end om hr) hb4),hS.bel⟩)
theorem dfields_any (kd:Int) (m:Int) (nu:Nat) (h:Nat) (ka:Option Addr) (kc:Nat) (ks:List dO) (hh:h<M) (w0:World):Calls prog 53 #[.agg (iC kd m ((nu:Nat):Int) h (.slice ka ks.length kc))] w0 (jR (.bool (fdN kd m nu h ks.length)) w0):=by
 refine Calls.of_ok (n:=70) (F:=(fun _=>True)) func53 rfl rfl rfl (by simp) jT (sS f53 2 [1,2] [] (fun ρ=>[pt (nb ρ 0),vF]) (fun ρ=>[(0,(nw ρ 0 (cL (iC kd m ((nu:Nat):Int) h (.slice ka ks.length kc)) 60)))]) (jE [[],[]]) (fun ρ1=>aB ?_))
 rcases Bool.eq_false_or_eq_true (kd != 2) with hb1 | hb1
 ·refine sS f53 8 [1,2,10] [] (fun _=>[pt (nb ρ1 0),vi kd,vT,vT,jp (nb ρ1 0) 1,vi m,.bool (m != 0),.bool (m != 0)]) (fun _=>[]) (cR [[],[0]]<|cA (fun _=>vT) (fun _=>congrArg Value.bool hb1)<|jE [[],[],[0],[],[]]) (fun _=>oC (m != 0) (fun hb2=>?_) (fun hb2=>?_))
  ·rw [hb2]
   refine jJ f53 1 [1,2] [vF] (aF (aC ?_))
   exact mR (v:=vF) (fun _ hS=>⟨jB (qU (by have:=iK hb1;have:=iK hb2;unfold o7;omega)),hS.bel⟩)
  rw [hb2]
  refine aG (aA (aB ?_))
  rcases Bool.eq_false_or_eq_true (kd != 3) with hb3 | hb3
  ·rcases Bool.eq_false_or_eq_true (kd != 4) with hb4 | hb4
   ·refine sS f53 13 [1,2,23] [] (fun _=>let qa:Value:=.bool (((nu:Nat):Int) != 0);[pt (nb ρ1 0),vi kd,vT,vT,pt (nb ρ1 0),vi kd,vT,vT,vT,jp (nb ρ1 0) 2,vu nu,qa,qa]) (fun _=>[]) (cR [[],[0]]<|cA (fun _=>vT) (fun _=>congrArg Value.bool hb3)<|cR [[],[],[0]]<|cA (fun _=>vT) (fun _=>congrArg Value.bool hb4)<|jE [[],[],[],[0],[],[]]) (fun _=>oC (((nu:Nat):Int) != 0) (fun hb5=>?_) (fun hb5=>?_))
    ·rw [hb5]
     refine jJ f53 1 [1,2] [vF] (aF (aC ?_))
     exact mR (v:=vF) (fun _ hS=>⟨jB (qU (by have:=iK hb1;have:=dD hb2;have:=iK hb3;have:=iK hb4;have:=iK hb5;unfold o7;omega)),hS.bel⟩)
    rw [hb5]
    refine aG (aA (aB ?_))
    rcases Bool.eq_false_or_eq_true (kd != 5) with hb6 | hb6
    ·refine sS f53 9 [1,2,32] [] (fun _=>[pt (nb ρ1 0),vi kd,vT,vT,jp (nb ρ1 0) 3,.agg (hB h),.agg (hB 0),.bool (!decide (h=0)),.bool (!decide (h=0))]) (fun _=>[]) (cR [[],[0]]<|cA (fun _=>vT) (fun _=>congrArg Value.bool hb6)<|cR [[],[],[0],[]]<|cB (a:=fun ρ=>(.agg (hB h))) (b:=fun ρ=>(.agg (hB 0))) (v:=fun ρ=>(.bool (!decide (h=0)))) .neq 57 (fun _ _=>neqH h 0 hh (by decide +kernel) _)<|jE [[]]) (fun _=>oC (!decide (h=0)) (fun hb7=>?_) (fun hb7=>?_))
     ·rw [hb7]
      refine jJ f53 1 [1,2] [vF] (aF (aC ?_))
      exact mR (v:=vF) (fun _ hS=>⟨jB (qU (by have:=iK hb1;have:=dD hb2;have:=iK hb3;have:=iK hb4;have:=dD hb5;have:=iK hb6;have:=yF (dF hb7);unfold o7;omega)),hS.bel⟩)
     rw [hb7]
     refine aG (aA (aB (jM f53 2 [1,2,34] [] [pt (nb ρ1 0),vi kd] [[],[0]] (aI (jJ f53 2 [1,2,34,35] [.bool (kd==1),.bool (kd==1)] (oC (kd==1) (fun hb8=>?_) (fun hb8=>?_)))))))
     ·rw [hb8]
      refine jM f53 5 [1,2] [] (let qa:Value:=.bool (((ks.length:Nat):Int)==1);[jp (nb ρ1 0) 35,.slice ka ks.length kc,vn ks.length,qa,qa]) [[],[0],[],[],[]] (aF (aP (aC ?_)))
      exact mR (v:=(.bool (((ks.length:Nat):Int)==1))) (fun _ hS=>⟨jB (fd_b (by have:=iK hb1;have:=dD hb2;have:=iK hb3;have:=iK hb4;have:=dD hb5;have:=iK hb6;have:=yT (aV hb7);have:=xQ hb8;unfold o7;omega)),hS.bel⟩)
     rw [hb8]
     refine sS f53 2 [1,2,41] [] (fun _=>[vF,vF]) (fun _=>[]) (cA (fun _=>vF) (fun _=>congrArg Value.bool (beq_f (iK hb1)))<|jE [[]]) (fun _=>lK [(1,(pt (nb ρ1 0))),(2,vF),(41,vF)] [(nb ρ1 0,(cL (iC kd m ((nu:Nat):Int) h (.slice ka ks.length kc)) 60))] (oN (aG (aJ (aA (jM f53 5 [2] [0] (let qa:Value:=.bool (((ks.length:Nat):Int)==0);[jp (nb ρ1 0) 35,.slice ka ks.length kc,vn ks.length,qa,qa]) [[],[0],[],[],[]] (aF ?_)))))))
     exact mR (v:=(.bool (((ks.length:Nat):Int)==0))) (fun _ hS=>⟨jB (fd_b (by have:=iK hb1;have:=dD hb2;have:=iK hb3;have:=iK hb4;have:=dD hb5;have:=iK hb6;have:=yT (aV hb7);have:=jP hb8;unfold o7;omega)),hS.bel⟩)
    refine sS f53 9 [1,2,32] [] (fun _=>[pt (nb ρ1 0),vi kd,vF,vF,undef,undef,undef,undef,vF]) (fun _=>[]) (cR [[],[0]]<|cA (fun _=>vF) (fun _=>congrArg Value.bool hb6)<|jE [[],[],[],[],[],[]]) (fun _=>oN (aG (aA (aB (jM f53 2 [1,2,34] [] [pt (nb ρ1 0),vi kd] [[],[0]] (aI (sS f53 2 [1,2,34,35] [] (fun _=>[vF,vF]) (fun _=>[]) (jQ (fun ρ=>(kd==1)) false (fun _=>(show (kd==1)=false by rw [dD hb6];rfl))<|jE [[]]) (fun _=>oN (sS f53 2 [1,2,41] [] (fun _=>[vF,vF]) (fun _=>[]) (jQ (fun ρ=>(kd==2)) false (fun _=>(show (kd==2)=false by rw [dD hb6];rfl))<|jE [[]]) (fun _=>lK [(1,(pt (nb ρ1 0))),(2,vF),(41,vF)] [(nb ρ1 0,(cL (iC kd m ((nu:Nat):Int) h (.slice ka ks.length kc)) 60))] (oN (aG (aJ (aA (jM f53 5 [2] [0] (let qa:Value:=.bool (((ks.length:Nat):Int)==0);[jp (nb ρ1 0) 35,.slice ka ks.length kc,vn ks.length,qa,qa]) [[],[0],[],[],[]] (aF ?_))))))))))))))))
    exact mR (v:=(.bool (((ks.length:Nat):Int)==0))) (fun _ hS=>⟨jB (fd_b (by have:=iK hb1;have:=dD hb2;have:=iK hb3;have:=iK hb4;have:=dD hb5;have:=dD hb6;unfold o7;omega)),hS.bel⟩)
   refine sS f53 13 [1,2,23] [] (fun _=>[pt (nb ρ1 0),vi kd,vT,vT,pt (nb ρ1 0),vi kd,vF,vF,vF,undef,undef,undef,vF]) (fun _=>[]) (cR [[],[0]]<|cA (fun _=>vT) (fun _=>congrArg Value.bool hb3)<|cR [[],[],[0]]<|cA (fun _=>vF) (fun _=>congrArg Value.bool hb4)<|jE [[],[],[],[],[],[]]) (fun _=>oN (aG (aA (aB (sS f53 9 [1,2,32] [] (fun _=>[pt (nb ρ1 0),vi kd,vT,vT,jp (nb ρ1 0) 3,.agg (hB h),.agg (hB 0),.bool (!decide (h=0)),.bool (!decide (h=0))]) (fun _=>[]) (cR [[],[0]]<|jQ (fun ρ=>(kd != 5)) true (fun _=>(show (kd != 5)=true by rw [dD hb4];rfl))<|cR [[],[],[0],[]]<|cB (a:=fun ρ=>(.agg (hB h))) (b:=fun ρ=>(.agg (hB 0))) (v:=fun ρ=>(.bool (!decide (h=0)))) .neq 57 (fun _ _=>neqH h 0 hh (by decide +kernel) _)<|jE [[]]) (fun _=>oC (!decide (h=0)) (fun hb9=>?_) (fun hb9=>?_)))))))
   ·rw [hb9]
    refine jJ f53 1 [1,2] [vF] (aF (aC ?_))
    exact mR (v:=vF) (fun _ hS=>⟨jB (qU (by have:=iK hb1;have:=dD hb2;have:=iK hb3;have:=dD hb4;have:=yF (dF hb9);unfold o7;omega)),hS.bel⟩)
   rw [hb9]
   refine aG (aA (aB (jM f53 2 [1,2,34] [] [pt (nb ρ1 0),vi kd] [[],[0]] (aI (sS f53 2 [1,2,34,35] [] (fun _=>[vF,vF]) (fun _=>[]) (jQ (fun ρ=>(kd==1)) false (fun _=>(show (kd==1)=false by rw [dD hb4];rfl))<|jE [[]]) (fun _=>oN (sS f53 2 [1,2,41] [] (fun _=>[vF,vF]) (fun _=>[]) (jQ (fun ρ=>(kd==2)) false (fun _=>(show (kd==2)=false by rw [dD hb4];rfl))<|jE [[]]) (fun _=>lK [(1,(pt (nb ρ1 0))),(2,vF),(41,vF)] [(nb ρ1 0,(cL (iC kd m ((nu:Nat):Int) h (.slice ka ks.length kc)) 60))] (oN (aG (aJ (aA (jM f53 5 [2] [0] (let qa:Value:=.bool (((ks.length:Nat):Int)==0);[jp (nb ρ1 0) 35,.slice ka ks.length kc,vn ks.length,qa,qa]) [[],[0],[],[],[]] (aF ?_))))))))))))))
   exact mR (v:=(.bool (((ks.length:Nat):Int)==0))) (fun _ hS=>⟨jB (fd_b (by have:=iK hb1;have:=dD hb2;have:=iK hb3;have:=dD hb4;have:=yT (aV hb9);unfold o7;omega)),hS.bel⟩)
  refine sS f53 13 [1,2,23] [] (fun _=>[pt (nb ρ1 0),vi kd,vF,vF,undef,undef,undef,vF,vF,undef,undef,undef,vF]) (fun _=>[]) (cR [[],[0]]<|cA (fun _=>vF) (fun _=>congrArg Value.bool hb3)<|jE [[],[],[],[],[],[],[],[],[],[]]) (fun _=>oN (aG (aA (aB (sS f53 9 [1,2,32] [] (fun _=>[pt (nb ρ1 0),vi kd,vT,vT,jp (nb ρ1 0) 3,.agg (hB h),.agg (hB 0),.bool (!decide (h=0)),.bool (!decide (h=0))]) (fun _=>[]) (cR [[],[0]]<|jQ (fun ρ=>(kd != 5)) true (fun _=>(show (kd != 5)=true by rw [dD hb3];rfl))<|cR [[],[],[0],[]]<|cB (a:=fun ρ=>(.agg (hB h))) (b:=fun ρ=>(.agg (hB 0))) (v:=fun ρ=>(.bool (!decide (h=0)))) .neq 57 (fun _ _=>neqH h 0 hh (by decide +kernel) _)<|jE [[]]) (fun _=>oC (!decide (h=0)) (fun hb10=>?_) (fun hb10=>?_)))))))
  ·rw [hb10]
   refine jJ f53 1 [1,2] [vF] (aF (aC ?_))
   exact mR (v:=vF) (fun _ hS=>⟨jB (qU (by have:=iK hb1;have:=dD hb2;have:=dD hb3;have:=yF (dF hb10);unfold o7;omega)),hS.bel⟩)
  rw [hb10]
  refine aG (aA (aB (jM f53 2 [1,2,34] [] [pt (nb ρ1 0),vi kd] [[],[0]] (aI (sS f53 2 [1,2,34,35] [] (fun _=>[vF,vF]) (fun _=>[]) (jQ (fun ρ=>(kd==1)) false (fun _=>(show (kd==1)=false by rw [dD hb3];rfl))<|jE [[]]) (fun _=>oN (sS f53 2 [1,2,41] [] (fun _=>[vF,vF]) (fun _=>[]) (jQ (fun ρ=>(kd==2)) false (fun _=>(show (kd==2)=false by rw [dD hb3];rfl))<|jE [[]]) (fun _=>lK [(1,(pt (nb ρ1 0))),(2,vF),(41,vF)] [(nb ρ1 0,(cL (iC kd m ((nu:Nat):Int) h (.slice ka ks.length kc)) 60))] (oN (aG (aJ (aA (jM f53 5 [2] [0] (let qa:Value:=.bool (((ks.length:Nat):Int)==0);[jp (nb ρ1 0) 35,.slice ka ks.length kc,vn ks.length,qa,qa]) [[],[0],[],[],[]] (aF ?_))))))))))))))
  exact mR (v:=(.bool (((ks.length:Nat):Int)==0))) (fun _ hS=>⟨jB (fd_b (by have:=iK hb1;have:=dD hb2;have:=dD hb3;have:=yT (aV hb10);unfold o7;omega)),hS.bel⟩)
 refine sS f53 8 [1,2,10] [] (fun _=>[pt (nb ρ1 0),vi kd,vF,vF,undef,undef,undef,vF]) (fun _=>[]) (cR [[],[0]]<|cA (fun _=>vF) (fun _=>congrArg Value.bool hb1)<|jE [[],[],[],[],[]]) (fun _=>oN (aG (aA (aB (sS f53 13 [1,2,23] [] (fun _=>let qa:Value:=.bool (((nu:Nat):Int) != 0);[pt (nb ρ1 0),vi kd,vT,vT,pt (nb ρ1 0),vi kd,vT,vT,vT,jp (nb ρ1 0) 2,vu nu,qa,qa]) (fun _=>[]) (cR [[],[0]]<|jQ (fun ρ=>(kd != 3)) true (fun _=>(show (kd != 3)=true by rw [dD hb1];rfl))<|cR [[],[],[0]]<|jQ (fun ρ=>(kd != 4)) true (fun _=>(show (kd != 4)=true by rw [dD hb1];rfl))<|jE [[],[],[],[0],[],[]]) (fun _=>oC (((nu:Nat):Int) != 0) (fun hb11=>?_) (fun hb11=>?_)))))))
 ·rw [hb11]
  refine jJ f53 1 [1,2] [vF] (aF (aC ?_))
  exact mR (v:=vF) (fun _ hS=>⟨jB (qU (by have:=dD hb1;have:=iK hb11;unfold o7;omega)),hS.bel⟩)
 rw [hb11]
 refine aG (aA (aB (sS f53 9 [1,2,32] [] (fun _=>[pt (nb ρ1 0),vi kd,vT,vT,jp (nb ρ1 0) 3,.agg (hB h),.agg (hB 0),.bool (!decide (h=0)),.bool (!decide (h=0))]) (fun _=>[]) (cR [[],[0]]<|jQ (fun ρ=>(kd != 5)) true (fun _=>(show (kd != 5)=true by rw [dD hb1];rfl))<|cR [[],[],[0],[]]<|cB (a:=fun ρ=>(.agg (hB h))) (b:=fun ρ=>(.agg (hB 0))) (v:=fun ρ=>(.bool (!decide (h=0)))) .neq 57 (fun _ _=>neqH h 0 hh (by decide +kernel) _)<|jE [[]]) (fun _=>oC (!decide (h=0)) (fun hb12=>?_) (fun hb12=>?_)))))
 ·rw [hb12]
  refine jJ f53 1 [1,2] [vF] (aF (aC ?_))
  exact mR (v:=vF) (fun _ hS=>⟨jB (qU (by have:=dD hb1;have:=dD hb11;have:=yF (dF hb12);unfold o7;omega)),hS.bel⟩)
 rw [hb12]
 refine aG (aA (aB (jM f53 2 [1,2,34] [] [pt (nb ρ1 0),vi kd] [[],[0]] (aI (sS f53 2 [1,2,34,35] [] (fun _=>[vF,vF]) (fun _=>[]) (jQ (fun ρ=>(kd==1)) false (fun _=>(show (kd==1)=false by rw [dD hb1];rfl))<|jE [[]]) (fun _=>oN (sS f53 2 [1,2,41] [] (fun _=>[vT,vT]) (fun _=>[]) (jQ (fun ρ=>(kd==2)) true (fun _=>(show (kd==2)=true by rw [dD hb1];rfl))<|jE [[]]) (fun _=>lK [(1,(pt (nb ρ1 0))),(2,vF),(41,vT)] [(nb ρ1 0,(cL (iC kd m ((nu:Nat):Int) h (.slice ka ks.length kc)) 60))] (oY ?_)))))))))
 rcases Bool.eq_false_or_eq_true (decide (1≤((ks.length:Nat):Int))) with hb13 | hb13
 ·rcases Bool.eq_false_or_eq_true (decide (((ks.length:Nat):Int)≤15)) with hb14 | hb14
  ·rcases Bool.eq_false_or_eq_true (decide (1≤m)) with hb15 | hb15
   ·refine sS f53 24 [1,2] [] (fun _=>let qa:Value:=.bool (decide (m≤((ks.length:Nat):Int)));let qb:Value:=.slice ka ks.length kc;[jp (nb ρ1 0) 35,qb,vn ks.length,vT,vT,jp (nb ρ1 0) 35,qb,vn ks.length,vT,vT,vT,jp (nb ρ1 0) 1,vi m,vT,vT,vT,jp (nb ρ1 0) 1,vi m,jp (nb ρ1 0) 35,qb,vn ks.length,qa,qa,qa]) (fun _=>[]) (cR [[],[0],[]]<|cA (fun _=>vT) (fun _=>congrArg Value.bool hb13)<|cR [[],[],[0],[]]<|cA (fun _=>vT) (fun _=>congrArg Value.bool hb14)<|cR [[],[],[],[0]]<|cA (fun _=>vT) (fun _=>congrArg Value.bool hb15)<|jE [[],[],[],[0],[],[0],[],[],[],[]]) (fun _=>aF (aP (aC ?_)))
    exact mR (v:=(.bool (decide (m≤((ks.length:Nat):Int))))) (fun _ hS=>⟨jB (fd_d (by have:=dD hb1;have:=dD hb11;have:=yT (aV hb12);have:=yT hb13;have:=yT hb14;have:=yT hb15;unfold o7;omega)),hS.bel⟩)
   refine sS f53 24 [1,2] [] (fun _=>[jp (nb ρ1 0) 35,.slice ka ks.length kc,vn ks.length,vT,vT,jp (nb ρ1 0) 35,.slice ka ks.length kc,vn ks.length,vT,vT,vT,jp (nb ρ1 0) 1,vi m,vF,vF,vF,undef,undef,undef,undef,undef,undef,vF,vF]) (fun _=>[]) (cR [[],[0],[]]<|cA (fun _=>vT) (fun _=>congrArg Value.bool hb13)<|cR [[],[],[0],[]]<|cA (fun _=>vT) (fun _=>congrArg Value.bool hb14)<|cR [[],[],[],[0]]<|cA (fun _=>vF) (fun _=>congrArg Value.bool hb15)<|jE [[],[],[],[],[],[],[],[],[],[]]) (fun _=>aF (aP (aC ?_)))
   exact mR (v:=vF) (fun _ hS=>⟨jB (qU (by have:=dD hb1;have:=dD hb11;have:=yT (aV hb12);have:=yT hb13;have:=yT hb14;have:=yF hb15;unfold o7;omega)),hS.bel⟩)
  refine sS f53 24 [1,2] [] (fun _=>[jp (nb ρ1 0) 35,.slice ka ks.length kc,vn ks.length,vT,vT,jp (nb ρ1 0) 35,.slice ka ks.length kc,vn ks.length,vF,vF,vF,undef,undef,undef,vF,vF,undef,undef,undef,undef,undef,undef,vF,vF]) (fun _=>[]) (cR [[],[0],[]]<|cA (fun _=>vT) (fun _=>congrArg Value.bool hb13)<|cR [[],[],[0],[]]<|cA (fun _=>vF) (fun _=>congrArg Value.bool hb14)<|jE [[],[],[],[],[],[],[],[],[],[],[],[],[],[],[]]) (fun _=>aF (aP (aC ?_)))
  exact mR (v:=vF) (fun _ hS=>⟨jB (qU (by have:=dD hb1;have:=dD hb11;have:=yT (aV hb12);have:=yT hb13;have:=yF hb14;unfold o7;omega)),hS.bel⟩)
 refine sS f53 24 [1,2] [] (fun _=>[jp (nb ρ1 0) 35,.slice ka ks.length kc,vn ks.length,vF,vF,undef,undef,undef,undef,vF,vF,undef,undef,undef,vF,vF,undef,undef,undef,undef,undef,undef,vF,vF]) (fun _=>[]) (cR [[],[0],[]]<|cA (fun _=>vF) (fun _=>congrArg Value.bool hb13)<|jE [[],[],[],[],[],[],[],[],[],[],[],[],[],[],[],[],[],[],[],[]]) (fun _=>aF (aP (aC ?_)))
 exact mR (v:=vF) (fun _ hS=>⟨jB (qU (by have:=dD hb1;have:=dD hb11;have:=yT (aV hb12);have:=yF hb13;unfold o7;omega)),hS.bel⟩)
theorem rdfields_any (kd:Int) (m:Int) (nu:Nat) (h:Nat) (ka:Option Addr) (kc:Nat) (ks:List dO) (hh:h<M) (w0:World):Calls prog 60 #[.agg (iC kd m ((nu:Nat):Int) h (.slice ka ks.length kc))] w0 (jR (.bool (fdN kd m nu h ks.length)) w0):=by
 refine Calls.of_ok (n:=68) (F:=(fun _=>True)) func60 rfl rfl rfl (by simp) jT (sS f60 2 [1,2] [] (fun ρ=>[pt (nb ρ 0),vF]) (fun ρ=>[(0,(nw ρ 0 (cL (iC kd m ((nu:Nat):Int) h (.slice ka ks.length kc)) 60)))]) (jE [[],[]]) (fun ρ1=>jM f60 4 [1,2,3] [] [jp (nb ρ1 0) 35,.slice ka ks.length kc,vn ks.length,vn ks.length] [[],[0],[],[]] (aB ?_)))
 rcases Bool.eq_false_or_eq_true (((nu:Nat):Int) != 0) with hb1 | hb1
 ·rcases Bool.eq_false_or_eq_true (kd != 3) with hb2 | hb2
  ·rcases Bool.eq_false_or_eq_true (kd != 4) with hb3 | hb3
   ·refine sS f60 24 [1,2,3,30] [] (fun _=>[jp (nb ρ1 0) 2,vu nu,vT,vT,pt (nb ρ1 0),vi kd,vT,vT,vT,pt (nb ρ1 0),vi kd,vT,vT,vT,undef,undef,undef,undef,undef,undef,undef,undef,undef,vT]) (fun _=>[]) (cR [[],[0]]<|cA (fun _=>vT) (fun _=>congrArg Value.bool hb1)<|cR [[],[],[0]]<|cA (fun _=>vT) (fun _=>congrArg Value.bool hb2)<|cR [[],[],[],[0]]<|cA (fun _=>vT) (fun _=>congrArg Value.bool hb3)<|jE [[],[],[],[],[],[],[],[],[],[],[],[]]) (fun _=>oY (jJ f60 1 [1,2,3] [vF] (aF (aC ?_))))
    exact mR (v:=vF) (fun _ hS=>⟨jB (qU (by have:=iK hb1;have:=iK hb2;have:=iK hb3;unfold o7;omega)),hS.bel⟩)
   rcases Bool.eq_false_or_eq_true (decide (h=0)) with hb4 | hb4
   ·refine sS f60 24 [1,2,3,30] [] (fun _=>[jp (nb ρ1 0) 2,vu nu,vT,vT,pt (nb ρ1 0),vi kd,vT,vT,vT,pt (nb ρ1 0),vi kd,vF,vF,vF,jp (nb ρ1 0) 3,.agg (hB h),.agg (hB 0),vF,vF,undef,undef,undef,vF,vF]) (fun _=>[]) (cR [[],[0]]<|cA (fun _=>vT) (fun _=>congrArg Value.bool hb1)<|cR [[],[],[0]]<|cA (fun _=>vT) (fun _=>congrArg Value.bool hb2)<|cR [[],[],[],[0]]<|cA (fun _=>vF) (fun _=>congrArg Value.bool hb3)<|cR [[],[],[],[0],[]]<|cB (a:=fun ρ=>(.agg (hB h))) (b:=fun ρ=>(.agg (hB 0))) (v:=fun ρ=>vF) .neq 57 (fun _ _=>(neqH h 0 hh (by decide +kernel) _).trans (by rw [hb4];try rfl))<|jE [[],[],[],[],[],[]]) (fun _=>oN (aG (aA (aB (jM f60 2 [1,2,3,32] [] [pt (nb ρ1 0),vi kd] [[],[0]] (aI (sS f60 2 [1,2,3,32,33] [] (fun _=>[vF,vF]) (fun _=>[]) (jQ (fun ρ=>(kd==1)) false (fun _=>(show (kd==1)=false by rw [dD hb3];rfl))<|jE [[]]) (fun _=>oN (sS f60 2 [1,2,3,42] [] (fun _=>[vF,vF]) (fun _=>[]) (jQ (fun ρ=>(kd==2)) false (fun _=>(show (kd==2)=false by rw [dD hb3];rfl))<|jE [[]]) (fun _=>oN (aG (aJ (aA ?_)))))))))))))
    rcases Bool.eq_false_or_eq_true (((ks.length:Nat):Int)==0) with hb5 | hb5
    ·refine sS f60 8 [2] [0] (fun _=>[vn ks.length,vT,vT,jp (nb ρ1 0) 1,vi m,.bool (m==0),.bool (m==0),.bool (m==0)]) (fun _=>[]) (cR [[]]<|cA (fun _=>vT) (fun _=>congrArg Value.bool hb5)<|jE [[],[],[0],[],[],[]]) (fun _=>aF ?_)
     exact mR (v:=(.bool (m==0))) (fun _ hS=>⟨jB (fd_b (by have:=iK hb1;have:=iK hb2;have:=dD hb3;have:=yT hb4;have:=xQ hb5;unfold o7;omega)),hS.bel⟩)
    refine sS f60 8 [2] [0] (fun _=>[vn ks.length,vF,vF,undef,undef,undef,vF,vF]) (fun _=>[]) (cR [[]]<|cA (fun _=>vF) (fun _=>congrArg Value.bool hb5)<|jE [[],[],[],[],[],[]]) (fun _=>aF ?_)
    exact mR (v:=vF) (fun _ hS=>⟨jB (qU (by have:=iK hb1;have:=iK hb2;have:=dD hb3;have:=yT hb4;have:=jP hb5;unfold o7;omega)),hS.bel⟩)
   refine sS f60 24 [1,2,3,30] [] (fun _=>[jp (nb ρ1 0) 2,vu nu,vT,vT,pt (nb ρ1 0),vi kd,vT,vT,vT,pt (nb ρ1 0),vi kd,vF,vF,vF,jp (nb ρ1 0) 3,.agg (hB h),.agg (hB 0),vT,vT,pt (nb ρ1 0),vi kd,vT,vT,vT]) (fun _=>[]) (cR [[],[0]]<|cA (fun _=>vT) (fun _=>congrArg Value.bool hb1)<|cR [[],[],[0]]<|cA (fun _=>vT) (fun _=>congrArg Value.bool hb2)<|cR [[],[],[],[0]]<|cA (fun _=>vF) (fun _=>congrArg Value.bool hb3)<|cR [[],[],[],[0],[]]<|cB (a:=fun ρ=>(.agg (hB h))) (b:=fun ρ=>(.agg (hB 0))) (v:=fun ρ=>vT) .neq 57 (fun _ _=>(neqH h 0 hh (by decide +kernel) _).trans (by rw [hb4];try rfl))<|cR [[],[],[0]]<|jQ (fun ρ=>(kd != 5)) true (fun _=>(show (kd != 5)=true by rw [dD hb3];rfl))<|jE [[],[]]) (fun _=>oY (jJ f60 1 [1,2,3] [vF] (aF (aC ?_))))
   exact mR (v:=vF) (fun _ hS=>⟨jB (qU (by have:=iK hb1;have:=iK hb2;have:=dD hb3;have:=yF hb4;unfold o7;omega)),hS.bel⟩)
  rcases Bool.eq_false_or_eq_true (decide (h=0)) with hb6 | hb6
  ·refine sS f60 24 [1,2,3,30] [] (fun _=>[jp (nb ρ1 0) 2,vu nu,vT,vT,pt (nb ρ1 0),vi kd,vF,vF,vF,undef,undef,undef,vF,vF,jp (nb ρ1 0) 3,.agg (hB h),.agg (hB 0),vF,vF,undef,undef,undef,vF,vF]) (fun _=>[]) (cR [[],[0]]<|cA (fun _=>vT) (fun _=>congrArg Value.bool hb1)<|cR [[],[],[0]]<|cA (fun _=>vF) (fun _=>congrArg Value.bool hb2)<|cR [[],[],[],[],[],[],[],[],[0],[]]<|cB (a:=fun ρ=>(.agg (hB h))) (b:=fun ρ=>(.agg (hB 0))) (v:=fun ρ=>vF) .neq 57 (fun _ _=>(neqH h 0 hh (by decide +kernel) _).trans (by rw [hb6];try rfl))<|jE [[],[],[],[],[],[]]) (fun _=>oN (aG (aA (aB (jM f60 2 [1,2,3,32] [] [pt (nb ρ1 0),vi kd] [[],[0]] (aI (sS f60 2 [1,2,3,32,33] [] (fun _=>[vF,vF]) (fun _=>[]) (jQ (fun ρ=>(kd==1)) false (fun _=>(show (kd==1)=false by rw [dD hb2];rfl))<|jE [[]]) (fun _=>oN (sS f60 2 [1,2,3,42] [] (fun _=>[vF,vF]) (fun _=>[]) (jQ (fun ρ=>(kd==2)) false (fun _=>(show (kd==2)=false by rw [dD hb2];rfl))<|jE [[]]) (fun _=>oN (aG (aJ (aA ?_)))))))))))))
   rcases Bool.eq_false_or_eq_true (((ks.length:Nat):Int)==0) with hb7 | hb7
   ·refine sS f60 8 [2] [0] (fun _=>[vn ks.length,vT,vT,jp (nb ρ1 0) 1,vi m,.bool (m==0),.bool (m==0),.bool (m==0)]) (fun _=>[]) (cR [[]]<|cA (fun _=>vT) (fun _=>congrArg Value.bool hb7)<|jE [[],[],[0],[],[],[]]) (fun _=>aF ?_)
    exact mR (v:=(.bool (m==0))) (fun _ hS=>⟨jB (fd_b (by have:=iK hb1;have:=dD hb2;have:=yT hb6;have:=xQ hb7;unfold o7;omega)),hS.bel⟩)
   refine sS f60 8 [2] [0] (fun _=>[vn ks.length,vF,vF,undef,undef,undef,vF,vF]) (fun _=>[]) (cR [[]]<|cA (fun _=>vF) (fun _=>congrArg Value.bool hb7)<|jE [[],[],[],[],[],[]]) (fun _=>aF ?_)
   exact mR (v:=vF) (fun _ hS=>⟨jB (qU (by have:=iK hb1;have:=dD hb2;have:=yT hb6;have:=jP hb7;unfold o7;omega)),hS.bel⟩)
  refine sS f60 24 [1,2,3,30] [] (fun _=>[jp (nb ρ1 0) 2,vu nu,vT,vT,pt (nb ρ1 0),vi kd,vF,vF,vF,undef,undef,undef,vF,vF,jp (nb ρ1 0) 3,.agg (hB h),.agg (hB 0),vT,vT,pt (nb ρ1 0),vi kd,vT,vT,vT]) (fun _=>[]) (cR [[],[0]]<|cA (fun _=>vT) (fun _=>congrArg Value.bool hb1)<|cR [[],[],[0]]<|cA (fun _=>vF) (fun _=>congrArg Value.bool hb2)<|cR [[],[],[],[],[],[],[],[],[0],[]]<|cB (a:=fun ρ=>(.agg (hB h))) (b:=fun ρ=>(.agg (hB 0))) (v:=fun ρ=>vT) .neq 57 (fun _ _=>(neqH h 0 hh (by decide +kernel) _).trans (by rw [hb6];try rfl))<|cR [[],[],[0]]<|jQ (fun ρ=>(kd != 5)) true (fun _=>(show (kd != 5)=true by rw [dD hb2];rfl))<|jE [[],[]]) (fun _=>oY (jJ f60 1 [1,2,3] [vF] (aF (aC ?_))))
  exact mR (v:=vF) (fun _ hS=>⟨jB (qU (by have:=iK hb1;have:=dD hb2;have:=yF hb6;unfold o7;omega)),hS.bel⟩)
 rcases Bool.eq_false_or_eq_true (decide (h=0)) with hb8 | hb8
 ·refine sS f60 24 [1,2,3,30] [] (fun _=>[jp (nb ρ1 0) 2,vu nu,vF,vF,undef,undef,undef,vF,vF,undef,undef,undef,vF,vF,jp (nb ρ1 0) 3,.agg (hB h),.agg (hB 0),vF,vF,undef,undef,undef,vF,vF]) (fun _=>[]) (cR [[],[0]]<|cA (fun _=>vF) (fun _=>congrArg Value.bool hb1)<|cR [[],[],[],[],[],[],[],[],[],[],[],[],[0],[]]<|cB (a:=fun ρ=>(.agg (hB h))) (b:=fun ρ=>(.agg (hB 0))) (v:=fun ρ=>vF) .neq 57 (fun _ _=>(neqH h 0 hh (by decide +kernel) _).trans (by rw [hb8];try rfl))<|jE [[],[],[],[],[],[]]) (fun _=>oN (aG (aA (aB (jM f60 2 [1,2,3,32] [] [pt (nb ρ1 0),vi kd] [[],[0]] (aI (jJ f60 2 [1,2,3,32,33] [.bool (kd==1),.bool (kd==1)] (oC (kd==1) (fun hb9=>?_) (fun hb9=>?_)))))))))
  ·rw [hb9]
   rcases Bool.eq_false_or_eq_true (((ks.length:Nat):Int)==1) with hb10 | hb10
   ·refine sS f60 8 [1,2,3] [] (fun _=>[vn ks.length,vT,vT,jp (nb ρ1 0) 1,vi m,.bool (m==0),.bool (m==0),.bool (m==0)]) (fun _=>[]) (cR [[]]<|cA (fun _=>vT) (fun _=>congrArg Value.bool hb10)<|jE [[],[],[0],[],[],[]]) (fun _=>aF (aP (aC ?_)))
    exact mR (v:=(.bool (m==0))) (fun _ hS=>⟨jB (fd_b (by have:=dD hb1;have:=yT hb8;have:=xQ hb9;have:=xQ hb10;unfold o7;omega)),hS.bel⟩)
   refine sS f60 8 [1,2,3] [] (fun _=>[vn ks.length,vF,vF,undef,undef,undef,vF,vF]) (fun _=>[]) (cR [[]]<|cA (fun _=>vF) (fun _=>congrArg Value.bool hb10)<|jE [[],[],[],[],[],[]]) (fun _=>aF (aP (aC ?_)))
   exact mR (v:=vF) (fun _ hS=>⟨jB (qU (by have:=dD hb1;have:=yT hb8;have:=xQ hb9;have:=jP hb10;unfold o7;omega)),hS.bel⟩)
  rw [hb9]
  refine jJ f60 2 [1,2,3,42] [.bool (kd==2),.bool (kd==2)] (oC (kd==2) (fun hb11=>?_) (fun hb11=>?_))
  ·rw [hb11]
   rcases Bool.eq_false_or_eq_true (decide (1≤((ks.length:Nat):Int))) with hb12 | hb12
   ·rcases Bool.eq_false_or_eq_true (decide (((ks.length:Nat):Int)≤15)) with hb13 | hb13
    ·rcases Bool.eq_false_or_eq_true (decide (1≤m)) with hb14 | hb14
     ·refine sS f60 18 [1,2,3] [] (fun _=>let qa:Value:=.bool (decide (m≤((ks.length:Nat):Int)));[vn ks.length,vT,vT,vn ks.length,vT,vT,vT,jp (nb ρ1 0) 1,vi m,vT,vT,vT,jp (nb ρ1 0) 1,vi m,vn ks.length,qa,qa,qa]) (fun _=>[]) (cR [[]]<|cA (fun _=>vT) (fun _=>congrArg Value.bool hb12)<|cR [[],[]]<|cA (fun _=>vT) (fun _=>congrArg Value.bool hb13)<|cR [[],[],[],[0]]<|cA (fun _=>vT) (fun _=>congrArg Value.bool hb14)<|jE [[],[],[],[0],[],[],[],[]]) (fun _=>aF (aP (aC ?_)))
      exact mR (v:=(.bool (decide (m≤((ks.length:Nat):Int))))) (fun _ hS=>⟨jB (fd_d (by have:=dD hb1;have:=yT hb8;have:=jP hb9;have:=xQ hb11;have:=yT hb12;have:=yT hb13;have:=yT hb14;unfold o7;omega)),hS.bel⟩)
     refine sS f60 18 [1,2,3] [] (fun _=>[vn ks.length,vT,vT,vn ks.length,vT,vT,vT,jp (nb ρ1 0) 1,vi m,vF,vF,vF,undef,undef,undef,undef,vF,vF]) (fun _=>[]) (cR [[]]<|cA (fun _=>vT) (fun _=>congrArg Value.bool hb12)<|cR [[],[]]<|cA (fun _=>vT) (fun _=>congrArg Value.bool hb13)<|cR [[],[],[],[0]]<|cA (fun _=>vF) (fun _=>congrArg Value.bool hb14)<|jE [[],[],[],[],[],[],[],[]]) (fun _=>aF (aP (aC ?_)))
     exact mR (v:=vF) (fun _ hS=>⟨jB (qU (by have:=dD hb1;have:=yT hb8;have:=jP hb9;have:=xQ hb11;have:=yT hb12;have:=yT hb13;have:=yF hb14;unfold o7;omega)),hS.bel⟩)
    refine sS f60 18 [1,2,3] [] (fun _=>[vn ks.length,vT,vT,vn ks.length,vF,vF,vF,undef,undef,undef,vF,vF,undef,undef,undef,undef,vF,vF]) (fun _=>[]) (cR [[]]<|cA (fun _=>vT) (fun _=>congrArg Value.bool hb12)<|cR [[],[]]<|cA (fun _=>vF) (fun _=>congrArg Value.bool hb13)<|jE [[],[],[],[],[],[],[],[],[],[],[],[],[]]) (fun _=>aF (aP (aC ?_)))
    exact mR (v:=vF) (fun _ hS=>⟨jB (qU (by have:=dD hb1;have:=yT hb8;have:=jP hb9;have:=xQ hb11;have:=yT hb12;have:=yF hb13;unfold o7;omega)),hS.bel⟩)
   refine sS f60 18 [1,2,3] [] (fun _=>[vn ks.length,vF,vF,undef,undef,vF,vF,undef,undef,undef,vF,vF,undef,undef,undef,undef,vF,vF]) (fun _=>[]) (cR [[]]<|cA (fun _=>vF) (fun _=>congrArg Value.bool hb12)<|jE [[],[],[],[],[],[],[],[],[],[],[],[],[],[],[],[]]) (fun _=>aF (aP (aC ?_)))
   exact mR (v:=vF) (fun _ hS=>⟨jB (qU (by have:=dD hb1;have:=yT hb8;have:=jP hb9;have:=xQ hb11;have:=yF hb12;unfold o7;omega)),hS.bel⟩)
  rw [hb11]
  refine aG (aJ (aA ?_))
  rcases Bool.eq_false_or_eq_true (((ks.length:Nat):Int)==0) with hb15 | hb15
  ·refine sS f60 8 [2] [0] (fun _=>[vn ks.length,vT,vT,jp (nb ρ1 0) 1,vi m,.bool (m==0),.bool (m==0),.bool (m==0)]) (fun _=>[]) (cR [[]]<|cA (fun _=>vT) (fun _=>congrArg Value.bool hb15)<|jE [[],[],[0],[],[],[]]) (fun _=>aF ?_)
   exact mR (v:=(.bool (m==0))) (fun _ hS=>⟨jB (fd_b (by have:=dD hb1;have:=yT hb8;have:=jP hb9;have:=jP hb11;have:=xQ hb15;unfold o7;omega)),hS.bel⟩)
  refine sS f60 8 [2] [0] (fun _=>[vn ks.length,vF,vF,undef,undef,undef,vF,vF]) (fun _=>[]) (cR [[]]<|cA (fun _=>vF) (fun _=>congrArg Value.bool hb15)<|jE [[],[],[],[],[],[]]) (fun _=>aF ?_)
  exact mR (v:=vF) (fun _ hS=>⟨jB (qU (by have:=dD hb1;have:=yT hb8;have:=jP hb9;have:=jP hb11;have:=jP hb15;unfold o7;omega)),hS.bel⟩)
 refine sS f60 24 [1,2,3,30] [] (fun _=>[jp (nb ρ1 0) 2,vu nu,vF,vF,undef,undef,undef,vF,vF,undef,undef,undef,vF,vF,jp (nb ρ1 0) 3,.agg (hB h),.agg (hB 0),vT,vT,pt (nb ρ1 0),vi kd,.bool (kd != 5),.bool (kd != 5),.bool (kd != 5)]) (fun _=>[]) (cR [[],[0]]<|cA (fun _=>vF) (fun _=>congrArg Value.bool hb1)<|cR [[],[],[],[],[],[],[],[],[],[],[],[],[0],[]]<|cB (a:=fun ρ=>(.agg (hB h))) (b:=fun ρ=>(.agg (hB 0))) (v:=fun ρ=>vT) .neq 57 (fun _ _=>(neqH h 0 hh (by decide +kernel) _).trans (by rw [hb8];try rfl))<|jE [[],[],[0],[],[],[]]) (fun _=>oC (kd != 5) (fun hb16=>?_) (fun hb16=>?_))
 ·rw [hb16]
  refine jJ f60 1 [1,2,3] [vF] (aF (aC ?_))
  exact mR (v:=vF) (fun _ hS=>⟨jB (qU (by have:=dD hb1;have:=yF hb8;have:=iK hb16;unfold o7;omega)),hS.bel⟩)
 rw [hb16]
 refine aG (aA (aB (jM f60 2 [1,2,3,32] [] [pt (nb ρ1 0),vi kd] [[],[0]] (aI (sS f60 2 [1,2,3,32,33] [] (fun _=>[vF,vF]) (fun _=>[]) (jQ (fun ρ=>(kd==1)) false (fun _=>(show (kd==1)=false by rw [dD hb16];rfl))<|jE [[]]) (fun _=>oN (sS f60 2 [1,2,3,42] [] (fun _=>[vF,vF]) (fun _=>[]) (jQ (fun ρ=>(kd==2)) false (fun _=>(show (kd==2)=false by rw [dD hb16];rfl))<|jE [[]]) (fun _=>oN (aG (aJ (aA ?_)))))))))))
 rcases Bool.eq_false_or_eq_true (((ks.length:Nat):Int)==0) with hb17 | hb17
 ·refine sS f60 8 [2] [0] (fun _=>[vn ks.length,vT,vT,jp (nb ρ1 0) 1,vi m,.bool (m==0),.bool (m==0),.bool (m==0)]) (fun _=>[]) (cR [[]]<|cA (fun _=>vT) (fun _=>congrArg Value.bool hb17)<|jE [[],[],[0],[],[],[]]) (fun _=>aF ?_)
  exact mR (v:=(.bool (m==0))) (fun _ hS=>⟨jB (fd_b (by have:=dD hb1;have:=yF hb8;have:=dD hb16;have:=xQ hb17;unfold o7;omega)),hS.bel⟩)
 refine sS f60 8 [2] [0] (fun _=>[vn ks.length,vF,vF,undef,undef,undef,vF,vF]) (fun _=>[]) (cR [[]]<|cA (fun _=>vF) (fun _=>congrArg Value.bool hb17)<|jE [[],[],[],[],[],[]]) (fun _=>aF ?_)
 exact mR (v:=vF) (fun _ hS=>⟨jB (qU (by have:=dD hb1;have:=yF hb8;have:=dD hb16;have:=jP hb17;unfold o7;omega)),hS.bel⟩)
end Go.Proofs.YtahoheofpggopaaGreatDoor
