/-
  What this statement needs, part 4: the texts of it, one behind the other.
-/
import Derived.Test.YtegagmoldjiaaaaGreatDoorBase3
set_option maxRecDepth 100000
set_option linter.all false
namespace Go.Proofs.YtegagmoldjiaaaaGreatDoor
open Go Go.RowKit _root_.Go.Proofs.Tryz
open Go renaming undef→Jz,Value→JA,World→JB,convert→JC
open _root_.List renaming length_append→II,length_cons→IJ,length_nil→IK,length_replicate→IM,replicate→IQ,length_tail→IY,getD_eq_getElem?_getD→I7,length_take→I8,append_nil→Jf,length_drop→Jj,drop_one→Jr,mem_cons_self→Js
open Go.Ending renaming returned→IL
open _root_.Nat renaming le_refl→IP,zero_le→IU,mod_eq_of_lt→I9,le_add_right→Ja,lt_trans→Jk,pow_le_pow_right→Jm,le_of_eq→Ju
open Go.Value renaming int→IR
open _root_.Iff renaming mp→IV
open Go.IntKind renaming u8→IW,u64→Jc
open Go.Next renaming value→IX
open Go.Instr renaming sliceAt→IZ,index→I4,makeSlice→Jd,indexAt→Ji,fieldAt→Jp
open _root_.Option renaming some→I5,bind_some→Jv
open _root_.Or renaming inr→Jb,inl→Jh
open Go.Builtin renaming append_→Je,copy_→Jo
open _root_.UInt8 renaming ofNat→Jg,toNat_ofNat'→Jt
open _root_.Prod renaming mk→Jl
open _root_.Sum renaming inr→Jn,inl→Jw
open Go.Lib renaming decDigits→Jq
open _root_.Decidable renaming em→Jy
abbrev gQ {α:Type} (p2 p3:List α):=fun p0 p1=>vs (nb p0 p1) (p2++p3).length (bV p0 p1)
abbrev Gm:=fun p0 p1 p2=>vs (nb p0 p1) p2 (p2+bV p0 p1)
theorem rsum_any (a:OA) (c:Nat) (B:LU) (h0:0<B.length) (hl:B.length+73<=140737488351232) (w0:JB) (hf0:Bs w0 a c B):Calls prog 50 #[aW a B.length c] w0 (jR (oG (iO B)) w0):=by
 refine Calls.cW 66 (fun w=>Bs w a c B/\True) func50 rfl rfl rfl (hf0.dW.and iD) (sS f50 1 [0,2] [] (fun r=>[bG r 0]) (fun r=>(pO 0 r (hB 0) 47)) (jX 1) (fun r1=>wW f50 8 [2,3] [] (fun r=>let qa:=vs (nb r 6) (B++(dE B.length)).length (bV r 6);[aW a B.length c,Gm r 1 B.length,aW a B.length c,vn B.length,vx B.length,gW (dE B.length) (oa r 5) (nb r 5),qa,qa]) (fun r=>[(1,(fB r 1 ((bs B).toArray++zB (bV r 1)) 5)),(6,(jD 9 r 6 (oc r 6) 5))]) (fun r=>[(5,fun w=>Fs w0 w (oa r 5) (nb r 5) (dE B.length)),(6,fun w=>Ap (oc r 6) (B++(dE B.length)) (bV r 6))]) (fun r=>(fun w=>Bs w a c B/\Fs w0 w (oa r 5) (nb r 5) (dE B.length)/\True)) (fun r=>Ap (oc r 6) (B++(dE B.length)) (bV r 6)) (fun _ _ hF hf=>⟨⟨hF.1,hf 5,trivial⟩,hf 6⟩) (jY 1<|cX (qN (fun _ ζ=>(vs (ζ.headD 0) B.length (B.length+ζ.tail.headD 0))) (fun _ ζ=>(cL ((bs B).toArray++zB (ζ.tail.headD 0)) 5)) (fun _ _ _ hG=>Em (ty:=35) underlying35 uT (Bs.src (tx:=35) underlying35 hG.fn.1) h0 (oB (dF B) (aV B.length))))<|jY 2<|cA (v:=fun r=>(dJ (Jc.wrap (B.length:Int)))) (fun _=>(vx B.length)) (fun _=>congrArg (IR .u64) (u64N (oB (dF B) (aV B.length))))<|qBc (fun _=>rpad_any B.length (oB (dF B) (aV B.length)) _)<|cX (qM 9 (fun r _ w hG hg=>app_any (ty:=35) (g:=nb r 1) (C:=((bs B).toArray++zB (bV r 1))) (c:=B.length+bV r 1) (xs:=B) underlying35 uT (Ap.mk' (Hd.fresh _ _) (Ja _ _) (oB (dF B) (aV B.length)) (Aj _ _)) (Bs.src (tx:=35) underlying35 (show Fs w0 w (oa r 5) (nb r 5) (dE B.length) from (hG.facts 5 rfl).now).1) (oB (Gx B.length) (aV B.length)) hg))<|jX 1) (fun r2 ap2_6=>sS f50 3 [2,3,4] [] (fun r=>[qy34,bG r 1,Jz]) (fun r=>[(1,(nw r 1 qy122)),(2,(mQ 10 (nb r 1) qy146))]) (oO rinitial_any<|jE [[],[10]]) (fun r3=>aC (jJ f50 1 [2,3,4,5] [vi 0] (aJ ?_))))))
 refine oL (σ:=Nat × Nat × Nat × Nat × Nat × Nat × Nat × Nat × Nat) (fun ⟨i,_,_,_,_,_,_,_,_⟩=>[(2,(bG r1 0)),(3,(gQ B (dE B.length) r2 6)),(4,(bG r3 1)),(5,(vn (64*i)))]) (fun ⟨_,t0,t1,t2,t3,t4,t5,t6,t7⟩=>[(nb r1 0,(cL (hB 0) 47)),(nb r2 6,(cL (oc r2 6) 5)),(nb r3 1,(cL #[vu t0,vu t1,vu t2,vu t3,vu t4,vu t5,vu t6,vu t7] 111))]) (fun ⟨i,_,_,_,_,_,_,_,_⟩=>(B++(dE B.length)).length / 64-i)
  (fun ⟨i,t0,t1,t2,t3,t4,t5,t6,t7⟩=>(i<=(B++(dE B.length)).length / 64)/\(shaS (B++(dE B.length)) i=(t0,t1,t2,t3,t4,t5,t6,t7))) (0,1779033703,3144134277,1013904242,2773480762,1359893119,2600822924,528734635,1541459225) (⟨IU _,rfl⟩) [] ?_
 rintro ⟨i,t0,t1,t2,t3,t4,t5,t6,t7⟩ ⟨hi,hQ⟩
 refine aC (aY f50 5 [2,3,4,5,22] [] [vn (64*i),vn (64*(i+1)),gQ B (dE B.length) r2 6,Ik (B++(dE B.length)),.bool (decide (((64*(i+1):Nat):Int)<=(((B++(dE B.length)).length:Nat):Int)))] [] (jY 1<|DV (((64*i:Nat):Int)+64) (64*(i+1)) ((pY (oB (dF B) (aV B.length))).trans om)<|jX 3) (oC (decide (((64*(i+1):Nat):Int)<=(((B++(dE B.length)).length:Nat):Int))) (fun y1=>?_) (fun y1=>?_)))
 ·rw [y1]
  have:=yT y1
  refine aI (aA (aC (aJ (sS f50 1 [2,3,4,5,6] [] (fun r=>[bG r 0]) (fun r=>[(0,(nw r 0 (cL (gY .u8 64 (fun _=>0)) 113)))]) (jX 1) (fun r6=>Au f50 [0,0,0,6,15] 5 [2,3,4,5,6] [] (let qa:=nT (B++(dE B.length)) (64*i) (B++(dE B.length)).length;[lY r6 0 64,gQ B (dE B.length) r2 6,vn (64*i),aW (yI (rF r2 6 0) (64*i) (bV r2 6)) qa.length ((bV r2 6)-(64*i)),vn (Nat.min qa.length 64)]) [(4,(mQ 3 (nb r6 0) (cL (bs ((nT (B++(dE B.length)) (64*i) (B++(dE B.length)).length).take 64)).toArray 113)))] (jY 3<|cX (jF (fun _=>IZ 35 (gQ B (dE B.length) r2 6) (sJ (64*i)) none none) (fun _=>(gW (nT (B++(dE B.length)) (64*i) (B++(dE B.length)).length) (yI (rF r2 6 0) (64*i) (bV r2 6)) ((bV r2 6)-(64*i)))) (fun _ _ _ hG=>Bv (l:=64*i) (k:=(B++(dE B.length)).length) underlying35 uT (Bs.o7 (hG.kn (g:=nb r2 6) (o:=(cL (oc r2 6) 5)) 1) ap2_6.hd ap2_6.le ap2_6.max) rfl (Jb (congrArg (fun z=>some (IR .i64 z)) (rfl))) (Jh ⟨rfl,rfl⟩) (oB (dF B) (aV B.length)) (IP _)) (fun _ _ _ _=>iD))<|cX (pR _ 3 (fun _=>do pure (IX (<- Jo #[35,35] 3 #[lY r6 0 64,gW (nT (B++(dE B.length)) (64*i) (B++(dE B.length)).length) (yI (rF r2 6 0) (64*i) (bV r2 6)) ((bV r2 6)-(64*i))]))) (fun _=>nb r6 0) (fun _=>(cL (gY .u8 64 (fun _=>0)) 113)) (fun _=>(cL (bs ((nT (B++(dE B.length)) (64*i) (B++(dE B.length)).length).take 64)).toArray 113)) (fun _=>(vn (Nat.min (nT (B++(dE B.length)) (64*i) (B++(dE B.length)).length).length 64))) (fun _=>kr) (fun _=>kr) (fun _=>kr) (fun _=>kr) tV (fun _ _ _ hG hg=>(by as_aux_lemma=>(rw [<- copy_arr (C:=(gY .u8 64 (fun _=>0))) (nH _ _ _) (by rw [oJ _ _ _ (IP _)];have:=dF B;have:=aV B.length;omega)];exact copy_row underlying35 uT hg ((Bs.o7 (hG.kn (g:=nb r2 6) (o:=(cL (oc r2 6) 5)) 1) ap2_6.hd ap2_6.le ap2_6.max).nT (oB (dF B) (aV B.length)) (IP _)) rfl (Ju (nH _ 64 _).symm)))))<|cN) (lV f50 4 [2,3,4,5] [1,1,1,0] (let qa:=oQ (t0,t1,t2,t3,t4,t5,t6,t7) ((nT (B++(dE B.length)) (64*i) (B++(dE B.length)).length).take 64);[.agg #[vu t0,vu t1,vu t2,vu t3,vu t4,vu t5,vu t6,vu t7],H7 ((nT (B++(dE B.length)) (64*i) (B++(dE B.length)).length).take 64),.agg #[vu (qa.1),vu (qa.2.1),vu (qa.2.2.1),vu (qa.2.2.2.1),vu (qa.2.2.2.2.1),vu (qa.2.2.2.2.2.1),vu (qa.2.2.2.2.2.2.1),vu (qa.2.2.2.2.2.2.2)],Jz]) (let qa:=oQ (t0,t1,t2,t3,t4,t5,t6,t7) ((nT (B++(dE B.length)) (64*i) (B++(dE B.length)).length).take 64);[(3,(mQ 2 (nb r3 1) (cL #[vu (qa.1),vu (qa.2.1),vu (qa.2.2.1),vu (qa.2.2.2.1),vu (qa.2.2.2.2.1),vu (qa.2.2.2.2.2.1),vu (qa.2.2.2.2.2.2.1),vu (qa.2.2.2.2.2.2.2)] 111)))]) (cR [[2]]<|nM (fun hG=>Eo isAgg113 sizeOf113 (hG.kn (g:=nb r6 0) (o:=(cL (bs ((nT (B++(dE B.length)) (64*i) (B++(dE B.length)).length).take 64)).toArray 113)) 3) (by rw [List.size_toArray,iI,I8,oJ _ _ _ (IP _)];have:=dF B;have:=aV B.length;omega))<|cC (f:=80) (args:=fun r=> #[.agg #[vu t0,vu t1,vu t2,vu t3,vu t4,vu t5,vu t6,vu t7],H7 ((nT (B++(dE B.length)) (64*i) (B++(dE B.length)).length).take 64)]) (v:=fun r=>(.agg #[vu ((oQ (t0,t1,t2,t3,t4,t5,t6,t7) ((nT (B++(dE B.length)) (64*i) (B++(dE B.length)).length).take 64)).1),vu ((oQ (t0,t1,t2,t3,t4,t5,t6,t7) ((nT (B++(dE B.length)) (64*i) (B++(dE B.length)).length).take 64)).2.1),vu ((oQ (t0,t1,t2,t3,t4,t5,t6,t7) ((nT (B++(dE B.length)) (64*i) (B++(dE B.length)).length).take 64)).2.2.1),vu ((oQ (t0,t1,t2,t3,t4,t5,t6,t7) ((nT (B++(dE B.length)) (64*i) (B++(dE B.length)).length).take 64)).2.2.2.1),vu ((oQ (t0,t1,t2,t3,t4,t5,t6,t7) ((nT (B++(dE B.length)) (64*i) (B++(dE B.length)).length).take 64)).2.2.2.2.1),vu ((oQ (t0,t1,t2,t3,t4,t5,t6,t7) ((nT (B++(dE B.length)) (64*i) (B++(dE B.length)).length).take 64)).2.2.2.2.2.1),vu ((oQ (t0,t1,t2,t3,t4,t5,t6,t7) ((nT (B++(dE B.length)) (64*i) (B++(dE B.length)).length).take 64)).2.2.2.2.2.2.1),vu ((oQ (t0,t1,t2,t3,t4,t5,t6,t7) ((nT (B++(dE B.length)) (64*i) (B++(dE B.length)).length).take 64)).2.2.2.2.2.2.2)])) (fun _ w=>(fun w=>rcompress_any t0 t1 t2 t3 t4 t5 t6 t7 ((nT (B++(dE B.length)) (64*i) (B++(dE B.length)).length).take 64) (hQ ▸ EL (B++(dE B.length)) i) (by rw [I8,oJ _ _ _ (IP _)];have:=dF B;have:=aV B.length;omega) w) w)<|jE [[2]]) (aH (aA (lV f50 3 [2,3,4,5] [] [vn (64*i),vn (64*(i+1)),vn (64*(i+1))] [] (jY 1<|DV (((64*i:Nat):Int)+64) (64*(i+1)) ((pY (oB (dF B) (aV B.length))).trans om)<|jX 1) (?_))))))))))
  exact mN (i+1,(oQ (t0,t1,t2,t3,t4,t5,t6,t7) ((nT (B++(dE B.length)) (64*i) (B++(dE B.length)).length).take 64)).1,(oQ (t0,t1,t2,t3,t4,t5,t6,t7) ((nT (B++(dE B.length)) (64*i) (B++(dE B.length)).length).take 64)).2.1,(oQ (t0,t1,t2,t3,t4,t5,t6,t7) ((nT (B++(dE B.length)) (64*i) (B++(dE B.length)).length).take 64)).2.2.1,(oQ (t0,t1,t2,t3,t4,t5,t6,t7) ((nT (B++(dE B.length)) (64*i) (B++(dE B.length)).length).take 64)).2.2.2.1,(oQ (t0,t1,t2,t3,t4,t5,t6,t7) ((nT (B++(dE B.length)) (64*i) (B++(dE B.length)).length).take 64)).2.2.2.2.1,(oQ (t0,t1,t2,t3,t4,t5,t6,t7) ((nT (B++(dE B.length)) (64*i) (B++(dE B.length)).length).take 64)).2.2.2.2.2.1,(oQ (t0,t1,t2,t3,t4,t5,t6,t7) ((nT (B++(dE B.length)) (64*i) (B++(dE B.length)).length).take 64)).2.2.2.2.2.2.1,(oQ (t0,t1,t2,t3,t4,t5,t6,t7) ((nT (B++(dE B.length)) (64*i) (B++(dE B.length)).length).take 64)).2.2.2.2.2.2.2) (by show (B++(dE B.length)).length / 64-(i+1)<(B++(dE B.length)).length / 64-i;have:=dF B;have:=aV B.length;omega) (⟨(oB (dF B) (aV B.length)),sha_next hQ (oB (dF B) (aV B.length))⟩) []
 rw [y1]
 have:=yF y1
 refine bC (aF (aF (aO (aA (sS f50 1 [2,4,7] [1,0,1,1] (fun r=>[bG r 0]) (fun r=>(pO 0 r (hB 0) 47)) (jX 1) (fun r10=>aC (jM f50 2 [2,7,33,34] [1,0,1] [.agg #[vu t0,vu t1,vu t2,vu t3,vu t4,vu t5,vu t6,vu t7],vi 0] [[1],[]] (aJ ?_))))))))
 refine oL (σ:=Nat × (Array JA)) (fun ⟨m,_⟩=>[(2,(bG r1 0)),(7,(bG r10 0)),(33,(.agg #[vu t0,vu t1,vu t2,vu t3,vu t4,vu t5,vu t6,vu t7])),(34,(vn m))]) (fun ⟨_,C⟩=>[(nb r1 0,(cL (hB 0) 47)),(nb r10 0,(cL C 47))]) (fun ⟨m,_⟩=>8-m)
  (fun ⟨m,C⟩=>(m<=8)/\(C=gY .u8 32 (GM (t0,t1,t2,t3,t4,t5,t6,t7) (4*m)))) (0,hB 0) (⟨by decide,hB0_row (t0,t1,t2,t3,t4,t5,t6,t7)⟩) [] ?_
 rintro ⟨m,C⟩ ⟨hm,hC⟩
 refine jJ f50 1 [2,7,33,34,35] [.bool (decide ((m:Int)<8))] (aC (oC (decide ((m:Int)<8)) (fun y2=>?_) (fun y2=>?_)))
 ·rw [y2]
  have:=yT y2
  refine aI (aA (aC (aJ (aY f50 4 [2,7,8,9,33,34] [] (let qa:=vu (tX (t0,t1,t2,t3,t4,t5,t6,t7) m);[vn m,qa,vn m,qa]) [] (jY 1<|pI (I4 111 (.agg #[vu t0,vu t1,vu t2,vu t3,vu t4,vu t5,vu t6,vu t7]) (vn m)) (vu (tX (t0,t1,t2,t3,t4,t5,t6,t7) m)) (idx_arr8 underlying111 underlying45 sizeOf45 (oB (dF B) (aV B.length)))<|jX 2) (lV f50 30 [2,7,33,34] [] (let qa:=vu (tX (t0,t1,t2,t3,t4,t5,t6,t7) m);[vn m,vn (4*m),vn m,vn (4*m),vn ((4*m)+1),vn m,vn (4*m),vn ((4*m)+2),vn m,vn (4*m),vn ((4*m)+3),qa,vu (tX (t0,t1,t2,t3,t4,t5,t6,t7) m / 2^24),Aq (t0,t1,t2,t3,t4,t5,t6,t7) m 2 24 256,qa,vu (tX (t0,t1,t2,t3,t4,t5,t6,t7) m / 2^16),Aq (t0,t1,t2,t3,t4,t5,t6,t7) m 2 16 256,qa,vu (tX (t0,t1,t2,t3,t4,t5,t6,t7) m / 2^8),Aq (t0,t1,t2,t3,t4,t5,t6,t7) m 2 8 256,qa,vy (tX (t0,t1,t2,t3,t4,t5,t6,t7) m%256),jp (nb r10 0) (4*m),Jz,sF r10 0 (4*m) 1,Jz,sF r10 0 (4*m) 2,Jz,sF r10 0 (4*m) 3,Jz]) [(23,(jD 1 r10 0 (gY .u8 32 (GM (t0,t1,t2,t3,t4,t5,t6,t7) (4*m+1))) 47)),(25,(jD 1 r10 0 (gY .u8 32 (GM (t0,t1,t2,t3,t4,t5,t6,t7) (4*m+2))) 47)),(27,(jD 1 r10 0 (gY .u8 32 (GM (t0,t1,t2,t3,t4,t5,t6,t7) (4*m+3))) 47)),(29,(jD 1 r10 0 (gY .u8 32 (GM (t0,t1,t2,t3,t4,t5,t6,t7) (4*(m+1)))) 47))] (jY 1<|oD (nG 4 m (oB (dF B) (aV B.length)))<|jY 1<|oD (nG 4 m (oB (dF B) (aV B.length)))<|oD (bF (4*m) 1 (oB (dF B) (aV B.length)))<|jY 1<|oD (nG 4 m (oB (dF B) (aV B.length)))<|oD (bF (4*m) 2 (oB (dF B) (aV B.length)))<|jY 1<|oD (nG 4 m (oB (dF B) (aV B.length)))<|oD (bF (4*m) 3 (oB (dF B) (aV B.length)))<|jY 1<|cB (a:=fun r=>(vu (tX (t0,t1,t2,t3,t4,t5,t6,t7) m))) (b:=fun r=>(rP 24)) (v:=fun r=>(vu (tX (t0,t1,t2,t3,t4,t5,t6,t7) m / 2^24))) .shr 45 (fun _ w=>pM (k:=.u32) (x:=tX (t0,t1,t2,t3,t4,t5,t6,t7) m) (c:=24) (sel8_lt (hQ ▸ EL _ i) _) w)<|eU (Aq (t0,t1,t2,t3,t4,t5,t6,t7) m 2 24 256) (congrArg (IR .u8) (u8M (tX (t0,t1,t2,t3,t4,t5,t6,t7) m / 2^24)))<|jY 1<|cB (a:=fun r=>(vu (tX (t0,t1,t2,t3,t4,t5,t6,t7) m))) (b:=fun r=>(rP 16)) (v:=fun r=>(vu (tX (t0,t1,t2,t3,t4,t5,t6,t7) m / 2^16))) .shr 45 (fun _ w=>pM (k:=.u32) (x:=tX (t0,t1,t2,t3,t4,t5,t6,t7) m) (c:=16) (sel8_lt (hQ ▸ EL _ i) _) w)<|eU (Aq (t0,t1,t2,t3,t4,t5,t6,t7) m 2 16 256) (congrArg (IR .u8) (u8M (tX (t0,t1,t2,t3,t4,t5,t6,t7) m / 2^16)))<|jY 1<|cB (a:=fun r=>(vu (tX (t0,t1,t2,t3,t4,t5,t6,t7) m))) (b:=fun r=>(rP 8)) (v:=fun r=>(vu (tX (t0,t1,t2,t3,t4,t5,t6,t7) m / 2^8))) .shr 45 (fun _ w=>pM (k:=.u32) (x:=tX (t0,t1,t2,t3,t4,t5,t6,t7) m) (c:=8) (sel8_lt (hQ ▸ EL _ i) _) w)<|eU (Aq (t0,t1,t2,t3,t4,t5,t6,t7) m 2 8 256) (congrArg (IR .u8) (u8M (tX (t0,t1,t2,t3,t4,t5,t6,t7) m / 2^8)))<|jY 1<|eU (vy (tX (t0,t1,t2,t3,t4,t5,t6,t7) m%256)) (congrArg (IR .u8) (u8M (tX (t0,t1,t2,t3,t4,t5,t6,t7) m)))<|pI (Ji 47 (bG r10 0) (vn (4*m))) (jp (nb r10 0) (4*m)) (bK (n:=((4*m:Nat):Int)) (i:=4*m) underlying47 sizeOf5 (oB (dF B) (aV B.length)))<|CW 1 5 (nb r10 0) (4*m) C (gY .u8 32 (GM (t0,t1,t2,t3,t4,t5,t6,t7) (4*m+1))) 47 (Aq (t0,t1,t2,t3,t4,t5,t6,t7) m 2 24 256) sizeOf5 (by rw [hC,nH];have:=dF B;have:=aV B.length;omega) (by rw [hC];exact Ht (m:=4*m) (by rw [show 4*m / 4=m by omega,show 24-4*m%4*8=24 by omega]))<|pI (Ji 47 (bG r10 0) (vn ((4*m)+1))) (sF r10 0 (4*m) 1) (bK (n:=(((4*m)+1:Nat):Int)) (i:=(4*m)+1) underlying47 sizeOf5 (oB (dF B) (aV B.length)))<|CW 1 5 (nb r10 0) ((4*m)+1) (gY .u8 32 (GM (t0,t1,t2,t3,t4,t5,t6,t7) (4*m+1))) (gY .u8 32 (GM (t0,t1,t2,t3,t4,t5,t6,t7) (4*m+2))) 47 (Aq (t0,t1,t2,t3,t4,t5,t6,t7) m 2 16 256) sizeOf5 (by rw [nH];have:=dF B;have:=aV B.length;omega) (by exact Ht (m:=4*m+1) (by rw [show (4*m+1) / 4=m by omega,show 24-(4*m+1)%4*8=16 by omega]))<|pI (Ji 47 (bG r10 0) (vn ((4*m)+2))) (sF r10 0 (4*m) 2) (bK (n:=(((4*m)+2:Nat):Int)) (i:=(4*m)+2) underlying47 sizeOf5 (oB (dF B) (aV B.length)))<|CW 1 5 (nb r10 0) ((4*m)+2) (gY .u8 32 (GM (t0,t1,t2,t3,t4,t5,t6,t7) (4*m+2))) (gY .u8 32 (GM (t0,t1,t2,t3,t4,t5,t6,t7) (4*m+3))) 47 (Aq (t0,t1,t2,t3,t4,t5,t6,t7) m 2 8 256) sizeOf5 (by rw [nH];have:=dF B;have:=aV B.length;omega) (by exact Ht (m:=4*m+2) (by rw [show (4*m+2) / 4=m by omega,show 24-(4*m+2)%4*8=8 by omega]))<|pI (Ji 47 (bG r10 0) (vn ((4*m)+3))) (sF r10 0 (4*m) 3) (bK (n:=(((4*m)+3:Nat):Int)) (i:=(4*m)+3) underlying47 sizeOf5 (oB (dF B) (aV B.length)))<|CW 1 5 (nb r10 0) ((4*m)+3) (gY .u8 32 (GM (t0,t1,t2,t3,t4,t5,t6,t7) (4*m+3))) (gY .u8 32 (GM (t0,t1,t2,t3,t4,t5,t6,t7) (4*(m+1)))) 47 (vy (tX (t0,t1,t2,t3,t4,t5,t6,t7) m%256)) sizeOf5 (by rw [nH];have:=dF B;have:=aV B.length;omega) (by exact Ht (m:=4*m+3) (by rw [show (4*m+3) / 4=m by omega,show 24-(4*m+3)%4*8=0 by omega];simp))<|cN) (aH (aA (lV f50 2 [2,7,33,34] [] [vn (m+1),vn (m+1)] [] (oD (bF m 1 (oB (dF B) (aV B.length)))<|jX 1) (?_)))))))))
  exact mN (m+1,gY .u8 32 (GM (t0,t1,t2,t3,t4,t5,t6,t7) (4*(m+1)))) (by show 8-(m+1)<8-m;have:=dF B;have:=aV B.length;omega) (⟨(oB (dF B) (aV B.length)),rfl⟩) []
 rw [y2]
 refine bC (aF (aF (aO ?_)))
 rw [hC]
 refine aA (aY f50 2 [2] [1,0] [bW (gY .u8 32 (GM (t0,t1,t2,t3,t4,t5,t6,t7) (4*m))),Jz] [(1,(mF 0 r1 (gY .u8 32 (GM (t0,t1,t2,t3,t4,t5,t6,t7) (4*m))) 47))] (nM (fun hG=>Eo isAgg47 sizeOf47 (hG.kn (g:=nb r10 0) (o:=(cL (gY .u8 32 (GM (t0,t1,t2,t3,t4,t5,t6,t7) (4*m))) 47)) 1) (nH _ _ _))<|jE [[0]]) (aG ?_))
 exact mR (v:=(bW (gY .u8 32 (GM (t0,t1,t2,t3,t4,t5,t6,t7) (4*m))))) (fun _ hS=>⟨congrArg IL (congrArg Value.agg ((dgf_end (by have:=yF y2;have:=dF B;have:=aV B.length;omega)).trans (congrArg hB (sha_end hQ (by have:=yF y2;have:=dF B;have:=aV B.length;omega))))),hS.dM⟩)
theorem rtagged_any (T:LU) (a:OA) (c:Nat) (B:LU) (hT:0<T.length/\T.length<=1000) (hl:B.length+200<=140737488351232) (w0:JB) (hf0:Bs w0 a c B):Calls prog 29 #[kD (dH T),aW a B.length c] w0 (jR (oG (l9 T B)) w0):=by
 refine Calls.cW 16 (fun w=>Bs w a c B/\True) func29 rfl rfl rfl (hf0.dW.and iD) (sS f29 1 [0,1,4] [] (fun r=>[bG r 0]) (fun r=>(pO 0 r (hB 0) 47)) (jX 1) (fun r1=>wW f29 5 [1,4,5] [] (fun r=>[aU T,aW (oa r 1) T.length (nb r 1),oG (iO T),bG r 3,Jz]) (fun r=>[(3,(fB r 3 (hB 0) 47)),(4,(jD 25 r 3 (hB (iO T)) 47))]) (fun r=>[(1,fun w=>Fs w0 w (oa r 1) (nb r 1) T)]) (fun r=>(fun w=>Bs w a c B/\Fs w0 w (oa r 1) (nb r 1) T/\True)) (fun _=>True) (fun _ _ hF hf=>⟨⟨hF.1,hf 1,trivial⟩,trivial⟩) (jY 1<|cX (o_newF _ (fun _=>do pure (IX (<- JC 9 35 (aU T)))) (fun _ α κ=>(aW α T.length κ)) (fun _=>T) (fun _ _=>kr) (fun _=>kr) (fun _ _=>kr) (fun _ _ w _=>EW underlying9 underlying35 underlying5 T om w))<|cX (qC (fun r _ w hG=>rsum_any (oa r 1) (nb r 1) T hT.1 om w (show Fs w0 w (oa r 1) (nb r 1) T from (hG.facts 1 rfl).now).1))<|jE [[],[25]]) (fun r2 _=>sDf f29 [0,1,0,7,0,31,63,127] 8 [4] [1,0,0] (fun r=>let qa:=vs (nb r2 3) (hL (iO T)).length 32;[qa,fE (hL (iO T)) (nb r 1) ((hL (iO T)).length+bV r 1),qa,fE ((hL (iO T))++(hL (iO T))) (nb r 3) (bV r 3),aW a B.length c,gQ ((hL (iO T))++(hL (iO T))) B r 5,oG (iO (((hL (iO T))++(hL (iO T)))++B)),Jz]) (fun r=>[(1,(fB r 1 ((bs (hL (iO T))).toArray++zB (bV r 1)) 5)),(3,(jD 10 r 3 (oc r 3) 5)),(5,(mQ 10 (nb r 5) (cL (oc r 5) 5))),(7,(mF 0 r1 (hB (iO (((hL (iO T))++(hL (iO T)))++B))) 47))]) (fun r=>[(3,fun w=>Ap (oc r 3) ((hL (iO T))++(hL (iO T))) (bV r 3)),(5,fun w=>Ap (oc r 5) (((hL (iO T))++(hL (iO T)))++B) (bV r 5))]) (fun _=>(fun w=>Bs w a c B/\Fs w0 w (oa r2 1) (nb r2 1) T/\True)) (fun r=>Ap (oc r 3) ((hL (iO T))++(hL (iO T))) (bV r 3)/\Ap (oc r 5) (((hL (iO T))++(hL (iO T)))++B) (bV r 5)) (fun _ _ hF hf=>⟨hF,⟨hf 3,hf 5⟩⟩) (jY 1<|cX (qN (fun _ ζ=>(fE (hL (iO T)) (ζ.headD 0) ((hL (iO T)).length+ζ.tail.headD 0))) (fun _ ζ=>(cL ((bs (hL (iO T))).toArray++zB (ζ.tail.headD 0)) 5)) (fun _ _ _ hG=>Em (ty:=35) underlying35 uT (Bs.src (tx:=35) underlying35 (Bs.o7 (c:=32) (hG.kn (g:=nb r2 3) (o:=(cL (hB (iO T)) 47)) 1) (DK _) (IP _) lb)) (by rw [aT];decide) (by rw [aT];decide)))<|jY 1<|cX (qM 10 (fun r _ _ hG hg=>app_any (ty:=35) (g:=nb r 1) (C:=((bs (hL (iO T))).toArray++zB (bV r 1))) (c:=(hL (iO T)).length+bV r 1) (xs:=hL (iO T)) underlying35 uT (Ap.mk' (Hd.fresh _ _) (Ja _ _) (by rw [aT];decide) (Aj _ _)) (Bs.src (tx:=35) underlying35 (Bs.o7 (c:=32) (hG.kn (g:=nb r2 3) (o:=(cL (hB (iO T)) 47)) 1) (DK _) (IP _) lb)) (by simp only [aT];omega) hg))<|jY 1<|cX (qM 10 (fun r _ _ hG hg=>app_any (ty:=35) (g:=nb r 3) (C:=(oc r 3)) (c:=bV r 3) (xs:=(hL (iO T))++(hL (iO T))) underlying35 uT (Ap.mk' (show Ap (oc r 3) ((hL (iO T))++(hL (iO T))) (bV r 3) from (hG.facts 3 rfl).now).hd (show Ap (oc r 3) ((hL (iO T))++(hL (iO T))) (bV r 3) from (hG.facts 3 rfl).now).le (show Ap (oc r 3) ((hL (iO T))++(hL (iO T))) (bV r 3) from (hG.facts 3 rfl).now).max (show Ap (oc r 3) ((hL (iO T))++(hL (iO T))) (bV r 3) from (hG.facts 3 rfl).now).size) (Bs.src (tx:=35) underlying35 hG.fn.1) (by simp only [II,aT];omega) hg))<|cX (qC (fun r _ w hG=>rsum_any (rF r 5 0) (bV r 5) (((hL (iO T))++(hL (iO T)))++B) (by simp only [II,aT];omega) (by simp only [II,aT];omega) w (Bs.o7 (hG.kn (g:=nb r 5) (o:=(cL (oc r 5) 5)) 10) (show Ap (oc r 5) (((hL (iO T))++(hL (iO T)))++B) (bV r 5) from (hG.facts 5 rfl).now).hd (show Ap (oc r 5) (((hL (iO T))++(hL (iO T)))++B) (bV r 5) from (hG.facts 5 rfl).now).le (show Ap (oc r 5) (((hL (iO T))++(hL (iO T)))++B) (bV r 5) from (hG.facts 5 rfl).now).max)))<|jE [[0]]) (fun _ ⟨ap3_3,ap3_5⟩=>aG ?_))))
 exact mR (v:=(oG (iO (((hL (iO T))++(hL (iO T)))++B)))) (fun _ hS=>⟨congrArg IL (congrArg (fun z=>Value.agg (hB z)) (by rw [l9,hL_sha])),hS.dM⟩)
theorem FW (a:Nat) (_ha:a<M) (w0:JB):Calls prog 104 #[U a] w0 (fun ε w'=>∃ α κ,ε=.returned (gW (hL a) α κ)/\jG w0 w'/\Fs w0 w' α κ (hL a)):=by
 refine Calls.cW 9 (fun _=>True) func104 rfl rfl rfl jT (sS f104 2 [1,2] [] (fun r=>[bG r 0,vz]) (fun r=>(pO 0 r (cU a) 54)) (jX 2) (fun _=>sS f104 4 [2,3] [0,1] (fun r=>[U a,oG a,bG r 2,Jz]) (fun r=>[(2,(fB r 2 (hB 0) 47)),(3,(jD 17 r 2 (hB a) 47))]) (cR [[0]]<|oO (rbytes_any a)<|jE [[],[17]]) (fun r2=>wW f104 4 [2] [0,1] (fun r=>let qa:=vs (nb r 2) (([]:LU)++(hL a)).length (bV r 2);[vs (nb r 0) ([]:LU).length 0,vs (nb r2 2) (hL a).length 32,qa,qa]) (fun r=>[(0,(nw r 0 (cL #[] 5))),(2,(jD 1 r 2 (oc r 2) 5))]) (fun r=>[(2,fun w=>Ap (oc r 2) (([]:LU)++(hL a)) (bV r 2))]) (fun _=>(fun _=>True)) (fun r=>Ap (oc r 2) (([]:LU)++(hL a)) (bV r 2)) (fun _ _ hF hf=>⟨hF,hf 2⟩) (jY 2<|cX (qM 1 (fun r _ _ hG hg=>app_any (ty:=35) (g:=nb r 0) (C:= #[]) (c:=0) (xs:=([]:LU)) underlying35 uT (Ap.mk' (rfl:Hd #[] ([]:LU)) (IP 0) lb rfl) (Bs.src (tx:=35) underlying35 (Bs.o7 (c:=32) (hG.kn (g:=nb r2 2) (o:=(cL (hB a) 47)) 0) (DK _) (IP _) lb)) (by rw [aT];decide) hg))<|jX 1) (fun r3 ap3_2=>aG (mD [(2,(fE (([]:LU)++(hL a)) (nb r3 2) (bV r3 2)))] [(nb r3 2,(cL (oc r3 2) 5))] ?_)))))
 exact mR (v:=(fE (([]:LU)++(hL a)) (nb r3 2) (bV r3 2))) (fun _ hS=>⟨rF r3 2 0,bV r3 2,congrArg IL (by rw [List.nil_append]),hS.dM,rC (List.nil_append _) (hS.fresh (.head _) ap3_2.hd ap3_2.le ap3_2.max)⟩)
theorem extend_any (a:OA) (c:Nat) (B:LU) (a2:OA) (c2:Nat) (S:LU) (hl:B.length+S.length<=140737488351232) (w0:JB) (hf0:Bs w0 a c B) (hf1:Bs w0 a2 c2 S):Calls prog 135 #[aW a B.length c,aW a2 S.length c2] w0 (fun ε w'=>∃ α κ,ε=.returned (.slice α (B++S).length κ)/\jG w0 w'/\Fs w0 w' α κ (B++S)):=by
 refine Calls.cW 18 (fun w=>Bs w a c B/\Bs w a2 c2 S/\True) func135 rfl rfl rfl (hf0.dW.and (hf1.dW.and iD)) (jJ f135 1 [0,1,4] [vz] (sS f135 7 [0,1,4,5] [] (fun r=>let qa:=vs (nb r 5) ([]:LU).length (B.length+S.length);[aW a B.length c,vn B.length,aW a2 S.length c2,vn S.length,vn (B.length+S.length),qa,qa]) (fun r=>[(5,(nw r 5 (cL (zB (B.length+S.length)) 5)))]) (jY 4<|oD (bF B.length S.length om)<|cX (Eg _ (fun _=>do pure (IX (<- Jd 35 (vi 0) (vn (B.length+S.length))))) (fun _ ζ=>(vs (ζ.headD 0) ([]:LU).length (B.length+S.length))) (fun _ _=>(cL (zB (B.length+S.length)) 5)) (fun _ _=>kr) (fun _=>kr) tV (fun _ _ w _=>yH underlying35 uT ([]:LU) (rfl) (rfl) (IU _) hl w))<|jX 1) (fun r2=>aY f135 4 [1,4,5] [] (let qa:=vs (nb r2 5) (([]:LU)++B).length (B.length+S.length);[vs (nb r2 5) ([]:LU).length (B.length+S.length),aW a B.length c,qa,qa]) [(2,(mQ 0 (nb r2 5) (qy221 B.length S.length B)))] (jY 2<|cX (pR _ 0 (fun _=>do pure (IX (<- Je #[35,35] 35 #[vs (nb r2 5) ([]:LU).length (B.length+S.length),aW a B.length c]))) (fun _=>nb r2 5) (fun _=>(cL (zB (B.length+S.length)) 5)) (fun _=>(qy221 B.length S.length B)) (fun _=>(vs (nb r2 5) (([]:LU)++B).length (B.length+S.length))) (fun _=>kr) (fun _=>kr) (fun _=>kr) (fun _=>kr) tV (fun _ _ _ hG hg=>qL underlying35 uT hg (Bs.src (tx:=35) underlying35 hG.fn.1) (zT _) (by simp only [IK];omega)))<|jX 1) (aY f135 4 [4] [] (let qa:=vs (nb r2 5) ((([]:LU)++B)++S).length (B.length+S.length);[vs (nb r2 5) (([]:LU)++B).length (B.length+S.length),aW a2 S.length c2,qa,qa]) [(2,(mQ 0 (nb r2 5) (qy148 B.length S.length B S)))] (jY 2<|cX (pR _ 0 (fun _=>do pure (IX (<- Je #[35,35] 35 #[vs (nb r2 5) (([]:LU)++B).length (B.length+S.length),aW a2 S.length c2]))) (fun _=>nb r2 5) (fun _=>(qy221 B.length S.length B)) (fun _=>(qy148 B.length S.length B S)) (fun _=>(vs (nb r2 5) ((([]:LU)++B)++S).length (B.length+S.length))) (fun _=>kr) (fun _=>kr) (fun _=>kr) (fun _=>kr) tV (fun _ _ _ hG hg=>qL underlying35 uT hg (Bs.src (tx:=35) underlying35 hG.fn.2.1) ((qR _ _ _ (yM (zT _) (by simp only [IK];omega))).trans (zT _)) (IP _)))<|jX 1) (aG (mD [(4,(vs (nb r2 5) ((([]:LU)++B)++S).length (B.length+S.length)))] [(nb r2 5,(qy148 B.length S.length B S))] ?_))))))
 exact mR (v:=(vs (nb r2 5) ((([]:LU)++B)++S).length (B.length+S.length))) (fun _ hS=>⟨rF r2 5 0,B.length+S.length,congrArg IL (rfl),hS.dM,rC (rfl) (hS.fresh (.head _) (Hd.lK (Hd.lK (Hd.nil _) rfl) rfl) (vX (IP _)) (vX hl))⟩)
theorem lowest_any (n:Nat) (m:Nat) (hn:n<18446744073709551616) (hm:m<=8) (w0:JB):Calls prog 136 #[vx n,vn m] w0 (fun ε w'=>∃ α κ,ε=.returned (.slice α (fZ n m).length κ)/\jG w0 w'/\Fs w0 w' α κ (fZ n m)):=by
 refine Calls.cW 23 (fun _=>True) func136 rfl rfl rfl jT (jJ f136 1 [0,1,4] [vz] (sS f136 3 [0,1,4,5] [] (fun r=>let qa:=vs (nb r 1) (IQ m (0:UInt8)).length m;[vn m,qa,qa]) (fun r=>(pO 1 r (zB m) 5)) (jY 1<|cX (Eg _ (fun _=>do pure (IX (<- Jd 35 (vn m) (vn m)))) (fun _ ζ=>(vs (ζ.headD 0) (IQ m (0:UInt8)).length m)) (fun _ _=>(cL (zB m) 5)) (fun _ _=>kr) (fun _=>kr) tV (fun _ _ w _=>yH underlying35 uT (IQ m (0:UInt8)) ((rfl).trans (by rw [IM])) (rfl) (by rw [IM];exact IP _) om w))<|jX 1) (fun r2=>aC (jJ f136 2 [0,4,5,9,10] [vn m,vi 0] (aJ ?_)))))
 refine oL (σ:=Nat) (fun i=>[(0,(vx n)),(4,vz),(5,(vs (nb r2 1) (IQ m (0:UInt8)).length m)),(9,(vn m)),(10,(vn i))]) (fun i=>[(nb r2 1,(cL (AC n m i) 5))]) (fun i=>m-i)
  (fun i=>(i<=m)) 0 (IU m) [] ?_
 rintro i hi
 refine jJ f136 1 [0,4,5,9,10,11] [.bool (decide ((i:Int)<(m:Int)))] (aC (oC (decide ((i:Int)<(m:Int))) (fun h1=>?_) (fun h1=>?_)))
 ·rw [h1]
  have:=yT h1
  refine aI (aA (aC (aJ (jJ f136 2 [0,4,5,6,9,10] [vn i,vn i] (lV f136 9 [0,4,5,9,10] [] [vs (nb r2 1) (IQ m (0:UInt8)).length m,vn i,vx n,vn i,vn (8*i),vx (n / 2^(8*i)),vy (n / 256^i%256),bH r2 1 i,Jz] [(8,(jD 0 r2 1 (AC n m (i+1)) 5))] (jY 4<|oD (nG 8 i (by have:=IM (n:=m) (a:=(0:UInt8));omega))<|cB (a:=fun r=>(vx n)) (b:=fun r=>(vn (8*i))) (v:=fun r=>(vx (n / 2^(8*i)))) .shr 52 (fun _ w=>pM (k:=.u64) hn w)<|eU (vy (n / 256^i%256)) (congrArg (IR .u8) (low_byte n i))<|qSc (Bz (g:=nb r2 1) (c:=m) (k:=.i64) underlying35 uT (show (i:Int)=(i:Int) from rfl) (show i<(IQ m (0:UInt8)).length from (by rw [IM];have:=IM (n:=m) (a:=(0:UInt8));omega)))<|CW 0 5 (nb r2 1) i (AC n m i) (AC n m (i+1)) 5 (vy (n / 256^i%256)) sizeOf5 (by rw [fill_size hi];have:=IM (n:=m) (a:=(0:UInt8));omega) (fill_set (by have:=IM (n:=m) (a:=(0:UInt8));omega))<|cN) (aH (aA (lV f136 2 [0,4,5,9,10] [] [vn (i+1),vn (i+1)] [] (oD (bF i 1 (by have:=IM (n:=m) (a:=(0:UInt8));omega))<|jX 1) (?_)))))))))
  exact mN (i+1) (by show m-(i+1)<m-i;have:=IM (n:=m) (a:=(0:UInt8));omega) (by show i+1<=m;have:=IM (n:=m) (a:=(0:UInt8));omega) []
 rw [h1]
 refine bC (aF (aF (aO (aA (jJ f136 2 [4] (let qa:=vs (nb r2 1) (IQ m (0:UInt8)).length m;[qa,qa]) (aG (mD [(4,(vs (nb r2 1) (IQ m (0:UInt8)).length m))] [(nb r2 1,(cL (AC n m i) 5))] ?_)))))))
 exact mR (v:=(vs (nb r2 1) (IQ m (0:UInt8)).length m)) (fun _ hS=>⟨rF r2 1 0,m,congrArg IL (by rw [IM,dX]),hS.dM,rC (fill_end (by have:=yF h1;have:=IM (n:=m) (a:=(0:UInt8));omega)) (hS.fresh (.head _) (Hd.all _) (Ju (H9 hi)) (by rw [H9 hi];omega))⟩)
theorem little_any (n:Nat) (m:Nat) (hn:n<18446744073709551616) (hm:m<=8) (w0:JB):Calls prog 138 #[vx n,vn m] w0 (fun ε w'=>∃ α κ,ε=.returned (.slice α (fZ n m).length κ)/\jG w0 w'/\Fs w0 w' α κ (fZ n m)):=by
 refine Calls.cW 24 (fun _=>True) func138 rfl rfl rfl jT (jJ f138 1 [0,1,4] [vz] (sS f138 3 [0,4,5] [] (fun r=>let qa:=vs (nb r 1) (IQ m (0:UInt8)).length m;[vn m,qa,qa]) (fun r=>(pO 1 r (zB m) 5)) (jY 1<|cX (Eg _ (fun _=>do pure (IX (<- Jd 35 (vn m) (vn m)))) (fun _ ζ=>(vs (ζ.headD 0) (IQ m (0:UInt8)).length m)) (fun _ _=>(cL (zB m) 5)) (fun _ _=>kr) (fun _=>kr) tV (fun _ _ w _=>yH underlying35 uT (IQ m (0:UInt8)) ((rfl).trans (by rw [IM])) (rfl) (by rw [IM];exact IP _) om w))<|jX 1) (fun r2=>aC (jJ f138 3 [0,4,5,10,11] [vs (nb r2 1) (IQ m (0:UInt8)).length m,Ik (IQ m (0:UInt8)),vi 0] (aJ ?_)))))
 refine oL (σ:=Nat) (fun i=>[(0,(vx n)),(4,vz),(5,(vs (nb r2 1) (IQ m (0:UInt8)).length m)),(10,(Ik (IQ m (0:UInt8)))),(11,(vn i))]) (fun i=>[(nb r2 1,(cL (AC n m i) 5))]) (fun i=>m-i)
  (fun i=>(i<=m)) 0 (IU m) [] ?_
 rintro i hi
 refine jJ f138 1 [0,4,5,10,11,12] [.bool (decide ((i:Int)<(((IQ m (0:UInt8)).length:Nat):Int)))] (aC (oC (decide ((i:Int)<(((IQ m (0:UInt8)).length:Nat):Int))) (fun h1=>?_) (fun h1=>?_)))
 ·rw [h1]
  have:=yT h1
  refine aI (aA (aC (aJ (jJ f138 2 [0,4,5,6,10,11] [vn i,vn i] (lV f138 9 [0,4,5,10,11] [] [vs (nb r2 1) (IQ m (0:UInt8)).length m,vn i,vx n,vn i,vn (8*i),vx (n / 2^(8*i)),vy (n / 256^i%256),bH r2 1 i,Jz] [(8,(jD 0 r2 1 (AC n m (i+1)) 5))] (jY 4<|oD (nG 8 i (by have:=IM (n:=m) (a:=(0:UInt8));omega))<|cB (a:=fun r=>(vx n)) (b:=fun r=>(vn (8*i))) (v:=fun r=>(vx (n / 2^(8*i)))) .shr 52 (fun _ w=>pM (k:=.u64) hn w)<|eU (vy (n / 256^i%256)) (congrArg (IR .u8) (low_byte n i))<|qSc (Bz (g:=nb r2 1) (c:=m) (k:=.i64) underlying35 uT (show (i:Int)=(i:Int) from rfl) (show i<(IQ m (0:UInt8)).length from (by rw [IM];have:=IM (n:=m) (a:=(0:UInt8));omega)))<|CW 0 5 (nb r2 1) i (AC n m i) (AC n m (i+1)) 5 (vy (n / 256^i%256)) sizeOf5 (by rw [fill_size hi];have:=IM (n:=m) (a:=(0:UInt8));omega) (fill_set (by have:=IM (n:=m) (a:=(0:UInt8));omega))<|cN) (aH (aA (lV f138 2 [0,4,5,10,11] [] [vn (i+1),vn (i+1)] [] (oD (bF i 1 (by have:=IM (n:=m) (a:=(0:UInt8));omega))<|jX 1) (?_)))))))))
  exact mN (i+1) (by show m-(i+1)<m-i;have:=IM (n:=m) (a:=(0:UInt8));omega) (by show i+1<=m;have:=IM (n:=m) (a:=(0:UInt8));omega) []
 rw [h1]
 refine bC (aF (aF (aO (aA (jJ f138 2 [4] (let qa:=vs (nb r2 1) (IQ m (0:UInt8)).length m;[qa,qa]) (aG (mD [(4,(vs (nb r2 1) (IQ m (0:UInt8)).length m))] [(nb r2 1,(cL (AC n m i) 5))] ?_)))))))
 exact mR (v:=(vs (nb r2 1) (IQ m (0:UInt8)).length m)) (fun _ hS=>⟨rF r2 1 0,m,congrArg IL (by rw [IM,dX]),hS.dM,rC (fill_end (by have:=yF h1;have:=IM (n:=m) (a:=(0:UInt8));omega)) (hS.fresh (.head _) (Hd.all _) (Ju (H9 hi)) (by rw [H9 hi];omega))⟩)
theorem zN (a:OA) (c:Nat) (B:LU) (n:Nat) (hn:n<4294967296) (hl:B.length+8<=140737488351232) (w0:JB) (hf0:Bs w0 a c B):Calls prog 99 #[aW a B.length c,vu n] w0 (fun ε w'=>∃ α κ,ε=.returned (.slice α (B++fZ n 4).length κ)/\jG w0 w'/\Fs w0 w' α κ (B++fZ n 4)):=by
 refine Calls.cW 10 (fun w=>Bs w a c B/\True) func99 rfl rfl rfl (hf0.dW.and iD) (jJ f99 1 [0,1,4] [vz] (wW f99 6 [4] [] (fun r=>let qa:JA:=.slice (oa r 4) (B++(fZ n 4)).length (nb r 4);[aW a B.length c,vu n,vx n,.slice (oa r 3) (fZ n 4).length (nb r 3),qa,qa]) eN (fun r=>[(3,fun w=>Fs w0 w (oa r 3) (nb r 3) (fZ n 4)),(4,fun w=>Fs w0 w (oa r 4) (nb r 4) (B++(fZ n 4)))]) (fun r=>(fun w=>Bs w a c B/\Fs w0 w (oa r 3) (nb r 3) (fZ n 4)/\Fs w0 w (oa r 4) (nb r 4) (B++(fZ n 4))/\True)) (fun _=>True) (fun _ _ hF hf=>⟨⟨hF.1,hf 3,hf 4,trivial⟩,trivial⟩) (jY 2<|cA (v:=fun r=>(dJ (Jc.wrap (n:Int)))) (fun _=>(vx n)) (fun _=>congrArg (IR .u64) (u64N om))<|qBc (fun _=>lowest_any n 4 om om _)<|cX (qB (fun r _ w hG=>extend_any a c B (oa r 3) (nb r 3) (fZ n 4) (by simp only [II,IJ,IK,dX,aT];omega) w hG.fn.1 (show Fs w0 w (oa r 3) (nb r 3) (fZ n 4) from (hG.facts 3 rfl).now).1))<|jX 1) (fun r2 _=>aG (mD [(4,(.slice (oa r2 4) (B++(fZ n 4)).length (nb r2 4)))] [] ?_))))
 exact mR (v:=(.slice (oa r2 4) (B++(fZ n 4)).length (nb r2 4))) (fun _ hS=>⟨oa r2 4,nb r2 4,congrArg IL (rfl),hS.dM,rC (rfl) hS.facts.now.2.2.1⟩)
theorem yP (a:OA) (c:Nat) (B:LU) (n:Nat) (hn:n<4294967296) (hl:B.length+8<=140737488351232) (w0:JB) (hf0:Bs w0 a c B):Calls prog 103 #[aW a B.length c,vu n] w0 (fun ε w'=>∃ α κ,ε=.returned (.slice α (B++fZ n 4).length κ)/\jG w0 w'/\Fs w0 w' α κ (B++fZ n 4)):=by
 refine Calls.cW 10 (fun w=>Bs w a c B/\True) func103 rfl rfl rfl (hf0.dW.and iD) (jJ f103 1 [0,1,4] [vz] (wW f103 6 [4] [] (fun r=>let qa:JA:=.slice (oa r 4) (B++(fZ n 4)).length (nb r 4);[aW a B.length c,vu n,vx n,.slice (oa r 3) (fZ n 4).length (nb r 3),qa,qa]) eN (fun r=>[(3,fun w=>Fs w0 w (oa r 3) (nb r 3) (fZ n 4)),(4,fun w=>Fs w0 w (oa r 4) (nb r 4) (B++(fZ n 4)))]) (fun r=>(fun w=>Bs w a c B/\Fs w0 w (oa r 3) (nb r 3) (fZ n 4)/\Fs w0 w (oa r 4) (nb r 4) (B++(fZ n 4))/\True)) (fun _=>True) (fun _ _ hF hf=>⟨⟨hF.1,hf 3,hf 4,trivial⟩,trivial⟩) (jY 2<|cA (v:=fun r=>(dJ (Jc.wrap (n:Int)))) (fun _=>(vx n)) (fun _=>congrArg (IR .u64) (u64N om))<|qBc (fun _=>little_any n 4 om om _)<|cX (qB (fun r _ w hG=>Dh a c B (oa r 3) (nb r 3) (fZ n 4) (by simp only [II,IJ,IK,dX,aT];omega) w hG.fn.1 (show Fs w0 w (oa r 3) (nb r 3) (fZ n 4) from (hG.facts 3 rfl).now).1))<|jX 1) (fun r2 _=>aG (mD [(4,(.slice (oa r2 4) (B++(fZ n 4)).length (nb r2 4)))] [] ?_))))
 exact mR (v:=(.slice (oa r2 4) (B++(fZ n 4)).length (nb r2 4))) (fun _ hS=>⟨oa r2 4,nb r2 4,congrArg IL (rfl),hS.dM,rC (rfl) hS.facts.now.2.2.1⟩)
theorem Bq (a:OA) (c:Nat) (B:LU) (h:Nat) (_hh:h<M) (hl:B.length+32<=140737488351232) (w0:JB) (hf0:Bs w0 a c B):Calls prog 100 #[aW a B.length c,oG h] w0 (fun ε w'=>∃ α κ,ε=.returned (.slice α (B++hL h).length κ)/\jG w0 w'/\Fs w0 w' α κ (B++hL h)):=by
 refine Calls.cW 8 (fun w=>Bs w a c B/\True) func100 rfl rfl rfl (hf0.dW.and iD) (sS f100 2 [0,3,4] [] (fun r=>[bG r 0,vz]) (fun r=>(pO 0 r (hB h) 47)) (jX 2) (fun r1=>wW f100 4 [4] [0] (fun r=>let qa:JA:=.slice (oa r 2) (B++(hL h)).length (nb r 2);[aW a B.length c,vs (nb r1 0) (hL h).length 32,qa,qa]) eN (fun r=>[(2,fun w=>Fs w0 w (oa r 2) (nb r 2) (B++(hL h)))]) (fun r=>(fun w=>Bs w a c B/\Fs w0 w (oa r 2) (nb r 2) (B++(hL h))/\True)) (fun _=>True) (fun _ _ hF hf=>⟨⟨hF.1,hf 2,trivial⟩,trivial⟩) (jY 2<|qBc (fun hG=>extend_any a c B (some ⟨nb r1 0,0,none⟩) 32 (hL h) (by simp only [II,IJ,IK,dX,aT];omega) _ hG.fn.1 (Bs.o7 (c:=32) (hG.kn (g:=nb r1 0) (o:=(cL (hB h) 47)) 0) (DK _) (IP _) lb))<|jX 1) (fun r2 _=>aG (mD [(4,(.slice (oa r2 2) (B++(hL h)).length (nb r2 2)))] [] ?_))))
 exact mR (v:=(.slice (oa r2 2) (B++(hL h)).length (nb r2 2))) (fun _ hS=>⟨oa r2 2,nb r2 2,congrArg IL (rfl),hS.dM,rC (rfl) hS.facts.now.2.1⟩)
theorem room_any (a:OA) (c:Nat) (B:LU) (z:Int) (m:Nat) (hz: -9223372036854775808<=z/\z<9223372036854775808) (hBl:B.length<=140737488351232) (hm:m<=32) (w0:JB):Calls prog 169 #[aW a B.length c,vi z,vn m] w0 (jR (vi (DX B.length z m)) w0):=by
 refine Calls.cW 21 (fun _=>True) func169 rfl rfl rfl jT (jJ f169 1 [0,1,2,6] [vi 0] (aC ?_))
 rcases jO (decide (z<0)) with b1 | b1
 ·refine aY f169 8 [0,1,2,6,14] [] [vi z,vT,vT,Jz,Jz,Jz,Jz,vT] [] (jY 1<|eU vT (jP b1)<|jX 6) (oY (jJ f169 1 [0,1,2,6] [vi 5] (aG (aB ?_))))
  exact mR (v:=(vi 5)) (fun _ hS=>⟨congrArg (fun x=>IL (vi x)) (rdE5 (oA (yT b1))).symm,hS.dM⟩)
 refine aY f169 8 [0,1,2,6,14] [] (let qa:JA:=.bool (decide ((B.length:Int)<z));[vi z,vF,vF,vi z,aW a B.length c,vn B.length,qa,qa]) [] (jY 1<|eU vF (jP b1)<|jX 6) (oC (decide ((B.length:Int)<z)) (fun b2=>?_) (fun b2=>?_))
 ·rw [b2]
  refine jJ f169 1 [0,1,2,6] [vi 5] (aG (aB ?_))
  exact mR (v:=(vi 5)) (fun _ hS=>⟨congrArg (fun x=>IL (vi x)) (rdE5 (oB (yF b1) (yT b2))).symm,hS.dM⟩)
 rw [b2]
 have:=yF b2
 refine aI (aA (aC (aY f169 6 [6,20] [] [aW a B.length c,vn B.length,vi z,pV B.length z,vn m,.bool (decide (((B.length:Int)-z)<(m:Int)))] [] (jY 3<|FC ((B.length:Int)-z) (oA (yF b1))<|jX 2) (oC (decide (((B.length:Int)-z)<(m:Int))) (fun b3=>?_) (fun b3=>?_)))))
 ·rw [b3]
  refine jJ f169 1 [6] [vi 1] (aG (aB ?_))
  exact mR (v:=(vi 1)) (fun _ hS=>⟨congrArg (fun x=>IL (vi x)) (rdE1 (oB (yF b1) (yT b3)) (oB (yF b1) (yT b3))).symm,hS.dM⟩)
 rw [b3]
 refine aI (aA (jJ f169 1 [6] [vi 0] (aG ?_)))
 exact mR (v:=(vi 0)) (fun _ hS=>⟨congrArg (fun x=>IL (vi x)) (rdE0 (oB (yF b1) (yF b3)) (oB (yF b1) (yF b3))).symm,hS.dM⟩)
abbrev rH:=fun p0 p1 p2=>vi (DX p0 p1 p2)
theorem read32_any (a:OA) (c:Nat) (B:LU) (z:Int) (m:Nat) (hz: -9223372036854775808<=z/\z<9223372036854775808) (hBl:B.length<=140737488351232) (hm:8*m<=32) (w0:JB) (hf0:Bs w0 a c B):Calls prog 168 #[aW a B.length c,vi z,vn m] w0 (jR (.tuple #[vu (yQ B z m),vi (Gq B.length z m),vi (DX B.length z m)]) w0):=by
 refine Calls.cW 40 (fun w=>Bs w a c B/\True) func168 rfl rfl rfl (hf0.dW.and iD) (jJ f168 3 [0,1,2,6,7,8] [cO 0,vi 0,vi 0] (aC (aY f168 5 [0,1,2,6,7,8,9] [] [aW a B.length c,vi z,vn m,rH B.length z m,rH B.length z m] [] (jY 3<|oO (room_any a c B z m om hBl om)<|jX 1) (jJ f168 2 [0,1,2,6,7,8,9,17] [rH B.length z m,.bool ((DX B.length z m) != 0)] (oC ((DX B.length z m) != 0) (fun h1=>?_) (fun h1=>?_))))))
 ·rw [h1]
  refine jJ f168 4 [0,1,2,6,7,8] [rH B.length z m,cO 0,vi 0,rH B.length z m] (aG (aB ?_))
  exact mR (v:=(.tuple #[cO 0,vi 0,rH B.length z m])) (fun _ hS=>⟨congrArg IL (rdT_err rfl (G9 h1)),hS.dM⟩)
 rw [h1]
 refine aI (aA (jJ f168 1 [0,1,2,6,7,8,10] [cO 0] (aC (jJ f168 2 [0,1,2,6,7,8,10,19,20] [vn m,vi 0] (aJ ?_)))))
 refine oL (σ:=Nat) (fun i=>[(0,(aW a B.length c)),(1,(vi z)),(2,(vn m)),(6,(cO 0)),(7,(vi 0)),(8,(vi 0)),(10,(vu (Af B z.toNat i))),(19,(vn m)),(20,(vn i))]) eN (fun i=>m-i)
  (fun i=>(i<=m)) 0 (IU m) [] ?_
 rintro i hi
 refine jJ f168 1 [0,1,2,6,7,8,10,19,20,21] [.bool (decide ((i:Int)<(m:Int)))] (aC (oC (decide ((i:Int)<(m:Int))) (fun h2=>?_) (fun h2=>?_)))
 ·rw [h2]
  have:=yT h2
  have zh1:z+(i:Int)=((z.toNat+i:Nat):Int)/\z.toNat+i<B.length:=⟨(oB (bQ h1) (uI (bQ h1))),(oB (bQ h1) (uI (bQ h1)))⟩
  refine aI (aA (aC (aJ (jJ f168 2 [0,1,2,6,7,8,10,11,19,20] [vn i,vn i] (lV f168 13 [0,1,2,6,7,8,10,19,20] [] (let qa:=vu (Af B z.toNat (i+1));[vu (Af B z.toNat i),aW a B.length c,vi z,vn i,vi (z+(i:Int)),tY a (z.toNat+i),kH B (z.toNat+i),vu (gB B (z.toNat+i)),vn i,vn (8*i),vu (gB B (z.toNat+i)*256^i),qa,qa]) [] (jY 4<|FC (z+(i:Int)) (oB (bQ h1) (uI (bQ h1)))<|nM (fun hG=>nO (k:=.i64) underlying35 uT hG.fn.1 rfl zh1.1 zh1.2)<|nM (fun hG=>pU isAgg5 hG.fn.1 zh1.2)<|cA (v:=fun r=>(cO (IntKind.u32.wrap (gB B (z.toNat+i):Int)))) (fun _=>(vu (gB B (z.toNat+i)))) (fun _=>jN (gB_in (k:=.u32) rfl dC B (z.toNat+i)))<|jY 1<|oD (nG 8 i (oB (bQ h1) (uI (bQ h1))))<|cB (a:=fun r=>(vu (gB B (z.toNat+i)))) (b:=fun r=>(vn (8*i))) (v:=fun r=>(vu (gB B (z.toNat+i)*256^i))) .shl 45 (fun _ w=>run_shl8 (k:=.u32) rfl B (z.toNat+i) i (by show 8*(i+1)<=32;have:=bQ h1;have:=uI (bQ h1);omega) w)<|cA (v:=fun r=>(cO (bits .or .u32 ((Af B z.toNat i:Nat):Int) (gB B (z.toNat+i)*256^i:Int)))) (fun _=>(vu (Af B z.toNat (i+1)))) (fun _=>jN (or_leN (k:=.u32) rfl B z.toNat i (by show 8*(i+1)<=32;have:=bQ h1;have:=uI (bQ h1);omega)))<|jX 1) (aH (aA (lV f168 2 [0,1,2,6,7,8,10,19,20] [] [vn (i+1),vn (i+1)] [] (oD (bF i 1 (oB (bQ h1) (uI (bQ h1))))<|jX 1) (?_)))))))))
  exact mN (i+1) (by show m-(i+1)<m-i;have:=bQ h1;have:=uI (bQ h1);omega) (by show i+1<=m;have:=bQ h1;have:=uI (bQ h1);omega) []
 rw [h2]
 refine bC (aF (aF (aO (aA (aY f168 7 [6,7,8] [] (let qa:=vi (z+(m:Int));[vu (Af B z.toNat i),vi z,vn m,qa,vu (Af B z.toNat i),qa,vi 0]) [] (jY 3<|FC (z+(m:Int)) (by have:=bQ h1;have:=uI (bQ h1);have:=yF h2;omega)<|jX 3) (aG ?_))))))
 exact mR (v:=(.tuple #[vu (Af B z.toNat i),vi (z+(m:Int)),vi 0])) (fun _ hS=>⟨congrArg IL (rdT_ok (bQ h1) (by have:=bQ h1;have:=uI (bQ h1);have:=yF h2;omega)),hS.dM⟩)
abbrev Iu:=fun p0 p1 p2 p3=>(.tuple #[vu (yQ p0 p1 p2),vi (Gq p3 p1 p2),vi (DX p3 p1 p2)]:JA)
theorem u32_any (a:OA) (c:Nat) (B:LU) (z:Int) (hz: -9223372036854775808<=z/\z<9223372036854775808) (hBl:B.length<=140737488351232) (w0:JB) (hf0:Bs w0 a c B):Calls prog 143 #[aW a B.length c,vi z] w0 (jR (.tuple #[vu (yQ B z 4),vi (Gq B.length z 4),vi (DX B.length z 4)]) w0):=by
 refine Calls.cW 13 (fun w=>Bs w a c B/\True) func143 rfl rfl rfl (hf0.dW.and iD) (jJ f143 3 [0,1,4,5,6] [cO 0,vi 0,vi 0] (aY f143 9 [4,5,6] [] [aW a B.length c,vi z,Iu B z 4 B.length,vu (yQ B z 4),vi (Gq B.length z 4),rH B.length z 4,vu (yQ B z 4),vi (Gq B.length z 4),rH B.length z 4] [] (jY 2<|zW (fun hG=>read32_any a c B z 4 om hBl dC _ hG.fn.1)<|jX 6) (aG ?_)))
 exact mR (v:=(Iu B z 4 B.length)) (fun _ hS=>⟨rfl,hS.dM⟩)
theorem number_any (a:OA) (c:Nat) (B:LU) (z:Int) (m:Nat) (hz: -9223372036854775808<=z/\z<9223372036854775808) (hBl:B.length<=140737488351232) (hm:m<=8) (w0:JB) (hf0:Bs w0 a c B):Calls prog 153 #[aW a B.length c,vi z,vn m] w0 (jR (.tuple #[vx (yQ B z m),vi (Gq B.length z m),vi (DX B.length z m)]) w0):=by
 refine Calls.cW 45 (fun w=>Bs w a c B/\True) func153 rfl rfl rfl (hf0.dW.and iD) (jJ f153 3 [0,1,2,6,7,8] [rP 0,vi 0,vi 0] (aC ?_))
 rcases jO (decide (z<0)) with h1 | h1
 ·refine aY f153 8 [0,1,2,6,7,8,18] [] [vi z,vT,vT,Jz,Jz,Jz,Jz,vT] [] (jY 1<|eU vT (jP h1)<|jX 6) (oY (jJ f153 3 [0,1,2,6,7,8] [rP 0,vi 0,vi 5] (aG (aB ?_))))
  exact mR (v:=(.tuple #[rP 0,vi 0,vi 5])) (fun _ hS=>⟨congrArg IL (rdT_err (rdE5 (oA (yT h1))) dC),hS.dM⟩)
 refine aY f153 8 [0,1,2,6,7,8,18] [] (let qa:JA:=.bool (decide ((B.length:Int)<z));[vi z,vF,vF,vi z,aW a B.length c,vn B.length,qa,qa]) [] (jY 1<|eU vF (jP h1)<|jX 6) (oC (decide ((B.length:Int)<z)) (fun h2=>?_) (fun h2=>?_))
 ·rw [h2]
  refine jJ f153 3 [0,1,2,6,7,8] [rP 0,vi 0,vi 5] (aG (aB ?_))
  exact mR (v:=(.tuple #[rP 0,vi 0,vi 5])) (fun _ hS=>⟨congrArg IL (rdT_err (rdE5 (oB (yF h1) (yT h2))) dC),hS.dM⟩)
 rw [h2]
 have:=yF h2
 refine aI (aA (aC (aY f153 6 [0,1,2,6,7,8,24] [] [aW a B.length c,vn B.length,vi z,pV B.length z,vn m,.bool (decide (((B.length:Int)-z)<(m:Int)))] [] (jY 3<|FC ((B.length:Int)-z) (oA (yF h1))<|jX 2) (oC (decide (((B.length:Int)-z)<(m:Int))) (fun h3=>?_) (fun h3=>?_)))))
 ·rw [h3]
  refine jJ f153 3 [0,1,2,6,7,8] [rP 0,vi 0,vi 1] (aG (aB ?_))
  exact mR (v:=(.tuple #[rP 0,vi 0,vi 1])) (fun _ hS=>⟨congrArg IL (rdT_err (rdE1 (oB (yF h1) (yT h3)) (oB (yF h1) (yT h3))) dC),hS.dM⟩)
 rw [h3]
 have:=yF h3
 refine aI (aA (jJ f153 1 [0,1,2,6,7,8,9] [rP 0] (aC (aY f153 3 [0,1,2,6,7,8,9,10] [] (let qa:=vi ((m:Int)-1-((0:Nat):Int));[vn m,qa,qa]) [] (jY 1<|jUc ((m:Int)-1) ((m:Int)-1-((0:Nat):Int)) ((pY (oA (yF h1))).trans om)<|jX 1) (aJ ?_)))))
 refine oL (σ:=Nat) (fun k=>[(0,(aW a B.length c)),(1,(vi z)),(2,(vn m)),(6,(rP 0)),(7,(vi 0)),(8,(vi 0)),(9,(vx (Af B (z.toNat+(m-k)) k))),(10,(vi ((m:Int)-1-(k:Int))))]) eN (fun k=>m-k)
  (fun k=>(k<=m)) 0 (IU m) [] ?_
 rintro k hk
 refine aC (jJ f153 2 [0,1,2,6,7,8,9,10,28] [vi ((m:Int)-1-(k:Int)),.bool (decide (0<=((m:Int)-1-(k:Int))))] (oC (decide (0<=((m:Int)-1-(k:Int)))) (fun h4=>?_) (fun h4=>?_)))
 ·rw [h4]
  have:=yT h4
  have zh1:z+((m:Int)-1-(k:Int))=((z.toNat+(m-1-k):Nat):Int)/\z.toNat+(m-1-k)<B.length:=⟨(oA (yF h1)),(oA (yF h1))⟩
  refine aI (aA (aC (aJ (lV f153 11 [0,1,2,6,7,8,9,10] [] (let qa:=vx (Af B (z.toNat+(m-(k+1))) (k+1));[vx (Af B (z.toNat+(m-k)) k),vx (Af B (z.toNat+(m-k)) k*256),aW a B.length c,vi z,vi ((m:Int)-1-(k:Int)),vi (z+((m:Int)-1-(k:Int))),tY a (z.toNat+(m-1-k)),kH B (z.toNat+(m-1-k)),vx (gB B (z.toNat+(m-1-k))),qa,qa]) [] (jY 1<|cB (a:=fun r=>(vx (Af B (z.toNat+(m-k)) k))) (b:=fun r=>(rP 8)) (v:=fun r=>(vx (Af B (z.toNat+(m-k)) k*256))) .shl 52 (fun _ w=>run_num8 B (z.toNat+(m-k)) (oA (yF h1)) w)<|jY 3<|FC (z+((m:Int)-1-(k:Int))) (oA (yF h1))<|nM (fun hG=>nO (k:=.i64) underlying35 uT hG.fn.1 rfl zh1.1 zh1.2)<|nM (fun hG=>pU isAgg5 hG.fn.1 zh1.2)<|cA (v:=fun r=>(dJ (Jc.wrap (gB B (z.toNat+(m-1-k)):Int)))) (fun _=>(vx (gB B (z.toNat+(m-1-k))))) (fun _=>congrArg (IR .u64) (u64N (by have:=yF h1;have:=gV B (z.toNat+(m-1-k));omega)))<|cA (v:=fun r=>(dJ (bits .or .u64 ((Af B (z.toNat+(m-k)) k*256:Nat):Int) (gB B (z.toNat+(m-1-k)):Int)))) (fun _=>(vx (Af B (z.toNat+(m-(k+1))) (k+1)))) (fun _=>congrArg (IR .u64) (or_num B z.toNat (oA (yF h1)) hm))<|jX 1) (aH (aA (lV f153 3 [0,1,2,6,7,8,9,10] [] (let qa:=vi ((m:Int)-1-((k+1:Nat):Int));[vi ((m:Int)-1-(k:Int)),qa,qa]) [] (jY 1<|jUc (((m:Int)-1-(k:Int))-1) ((m:Int)-1-((k+1:Nat):Int)) ((pY (oA (yF h1))).trans om)<|jX 1) (?_))))))))
  exact mN (k+1) (by show m-(k+1)<m-k;have:=yF h1;omega) (by show k+1<=m;have:=yF h1;omega) []
 rw [h4]
 have:=yF h4
 refine bC (aF (aF (aO (aA (aY f153 7 [6,7,8] [] (let qa:=vx (Af B (z.toNat+(m-k)) k);let qb:=vi (z+(m:Int));[qa,vi z,vn m,qb,qa,qb,vi 0]) [] (jY 3<|FC (z+(m:Int)) (oA (yF h1))<|jX 3) (aG ?_))))))
 exact mR (v:=(.tuple #[vx (Af B (z.toNat+(m-k)) k),vi (z+(m:Int)),vi 0])) (fun _ hS=>⟨congrArg IL (by rw [num_end (show k=m by have:=yF h1;omega)];exact rdT_ok (rdE0 (oA (yF h1)) (oA (yF h1))) rfl),hS.dM⟩)
theorem ru32_any (a:OA) (c:Nat) (B:LU) (z:Int) (hz: -9223372036854775808<=z/\z<9223372036854775808) (hBl:B.length<=140737488351232) (w0:JB) (hf0:Bs w0 a c B):Calls prog 116 #[aW a B.length c,vi z] w0 (jR (.tuple #[vu (yQ B z 4),vi (Gq B.length z 4),vi (DX B.length z 4)]) w0):=by
 refine Calls.cW 21 (fun w=>Bs w a c B/\True) func116 rfl rfl rfl (hf0.dW.and iD) (jJ f116 3 [0,1,4,5,6] [cO 0,vi 0,vi 0] (aY f116 10 [4,5,6,7,8,9] [] [aW a B.length c,vi z,.tuple #[vx (yQ B z 4),vi (Gq B.length z 4),rH B.length z 4],.tuple #[vx (yQ B z 4),vi (Gq B.length z 4),rH B.length z 4],vx (yQ B z 4),vi (Gq B.length z 4),rH B.length z 4,vx (yQ B z 4),vi (Gq B.length z 4),rH B.length z 4] [] (jY 2<|zW (fun hG=>number_any a c B z 4 om hBl dC _ hG.fn.1)<|jX 7) (aY f116 7 [4,5,6] [] [vx (yQ B z 4),vu (yQ B z 4),vi (Gq B.length z 4),rH B.length z 4,vu (yQ B z 4),vi (Gq B.length z 4),rH B.length z 4] [] (jY 1<|cA (v:=fun r=>(cO (IntKind.u32.wrap ((yQ B z 4:Nat):Int)))) (fun _=>(vu (yQ B z 4))) (fun _=>jN (u32N (oA (rdV_lt B z 4))))<|jX 5) (aG ?_))))
 exact mR (v:=(Iu B z 4 B.length)) (fun _ hS=>⟨rfl,hS.dM⟩)
abbrev CG {α:Type} (p0:List α):=vn (Nat.min p0.length 32)
abbrev uZ:=(.agg (hB 0):JA)
theorem hash_any (a:OA) (c:Nat) (B:LU) (z:Int) (hz: -9223372036854775808<=z/\z<9223372036854775808) (hBl:B.length<=140737488351232) (w0:JB) (hf0:Bs w0 a c B):Calls prog 144 #[aW a B.length c,vi z] w0 (jR (.tuple #[oG (nU B z),vi (Gq B.length z 32),vi (DX B.length z 32)]) w0):=by
 refine Calls.cW 24 (fun w=>Bs w a c B/\True) func144 rfl rfl rfl (hf0.dW.and iD) (sS f144 3 [0,1,4,5,6] [] (fun r=>[bG r 0,vi 0,vi 0]) (fun r=>(pO 0 r (hB 0) 47)) (jX 3) (fun r1=>sS f144 1 [0,1,4,5,6,7] [] (fun r=>[bG r 0]) (fun r=>(pO 0 r (hB 0) 47)) (jX 1) (fun r2=>aC (aY f144 4 [0,1,4,5,6,7,8] [] [aW a B.length c,vi z,rH B.length z 32,rH B.length z 32] [] (jY 2<|oO (room_any a c B z 32 om hBl om)<|jX 1) (jJ f144 2 [0,1,4,5,6,7,8,13] [rH B.length z 32,.bool ((DX B.length z 32) != 0)] (oC ((DX B.length z 32) != 0) (fun b1=>?_) (fun b1=>?_)))))))
 ·rw [b1]
  refine aY f144 5 [0,1,4,5,6,7] [] [uZ,rH B.length z 32,Jz,vi 0,rH B.length z 32] [(2,(mF 0 r1 (hB 0) 47))] (jE [[],[],[0],[],[]]) (aG (aB ?_))
  exact mR (v:=(.tuple #[uZ,vi 0,rH B.length z 32])) (fun _ hS=>⟨congrArg IL (hs_err rfl (G9 b1)),hS.dM⟩)
 rw [b1]
 refine aI (aA (sDf f144 [0,0,0,6,15] 5 [1,4,5,6,7] [] (fun _=>[vs (nb r2 0) (hL 0).length 32,aW a B.length c,vi z,gW (nT B z.toNat B.length) (yI a z.toNat c) (c-z.toNat),CG (nT B z.toNat B.length)]) (fun _=>[(4,(jD 1 r2 0 (hB (nB ((nT B z.toNat B.length).take 32))) 47))]) (fun _=>[(3,fun w=>Bs w (yI a z.toNat c) (c-z.toNat) (nT B z.toNat B.length))]) (fun _=>(fun w=>Bs w a c B/\Bs w (yI a z.toNat c) (c-z.toNat) (nT B z.toNat B.length)/\True)) (fun _=>True) (fun _ _ hF hf=>⟨⟨hF.1,hf 3,trivial⟩,trivial⟩) (jY 3<|cX (jF (fun _=>IZ 35 (aW a B.length c) (some (vi z)) none none) (fun _=>(gW (nT B z.toNat B.length) (yI a z.toNat c) (c-z.toNat))) (fun _ _ _ hG=>Bv (l:=z.toNat) (k:=B.length) underlying35 uT hG.fn.1 rfl (Jb (congrArg (fun z=>some (IR .i64 z)) (oB (bQ b1) (uI (bQ b1))))) (Jh ⟨rfl,rfl⟩) (oB (bQ b1) (uI (bQ b1))) (IP _)) (fun _ _ w hG=>hG.iE.mono (fun _ hF=>hF.1.nT (oB (bQ b1) (uI (bQ b1))) (IP _))))<|cX (pR _ 1 (fun _=>do pure (IX (<- Jo #[35,35] 3 #[lY r2 0 32,gW (nT B z.toNat B.length) (yI a z.toNat c) (c-z.toNat)]))) (fun _=>nb r2 0) (fun _=>(cL (hB 0) 47)) (fun _=>(cL (hB (nB ((nT B z.toNat B.length).take 32))) 47)) (fun _=>(CG (nT B z.toNat B.length))) (fun _=>kr) (fun _=>kr) (fun _=>kr) (fun _=>kr) tV (fun _ _ w hG hg=>(by as_aux_lemma=>(rw [<- copy_hash (by rw [oJ _ _ _ (IP _)];have:=bQ b1;have:=uI (bQ b1);omega)];exact copy_row underlying35 uT hg (show Bs w (yI a z.toNat c) (c-z.toNat) (nT B z.toNat B.length) from (hG.facts 3 rfl).now) rfl (by rw [vY];exact IP _)))))<|cN) (fun _ _=>aY f144 6 [4,5,6] [1,0] [oG (nB ((nT B z.toNat B.length).take 32)),vi z,vi (z+32),Jz,vi (z+32),vi 0] [(3,(mF 0 r1 (hB (nB ((nT B z.toNat B.length).take 32))) 47))] (cR [[1],[]]<|FC (z+32) (oB (bQ b1) (uI (bQ b1)))<|jE [[0],[],[]]) (aG ?_))))
 exact mR (v:=(.tuple #[oG (nB ((nT B z.toNat B.length).take 32)),vi (z+32),vi 0])) (fun _ hS=>⟨congrArg IL (hs_ok (bQ b1)),hS.dM⟩)
theorem rhash_any (a:OA) (c:Nat) (B:LU) (z:Int) (hz: -9223372036854775808<=z/\z<9223372036854775808) (hBl:B.length<=140737488351232) (w0:JB) (hf0:Bs w0 a c B):Calls prog 117 #[aW a B.length c,vi z] w0 (jR (.tuple #[oG (nU B z),vi (Gq B.length z 32),vi (DX B.length z 32)]) w0):=by
 refine Calls.cW 31 (fun w=>Bs w a c B/\True) func117 rfl rfl rfl (hf0.dW.and iD) (sS f117 3 [0,1,4,5,6] [] (fun r=>[bG r 0,vi 0,vi 0]) (fun r=>(pO 0 r (hB 0) 47)) (jX 3) (fun r1=>sS f117 1 [0,1,4,5,6,7] [] (fun r=>[bG r 0]) (fun r=>(pO 0 r (hB 0) 47)) (jX 1) (fun r2=>aC ?_)))
 rcases jO (decide (z<0)) with b1 | b1
 ·refine aY f117 8 [0,1,4,5,6,7,15] [] [vi z,vT,vT,Jz,Jz,Jz,Jz,vT] [] (jY 1<|eU vT (jP b1)<|jX 6) (oY (aY f117 4 [0,1,4,5,6,7] [] [uZ,Jz,vi 0,vi 5] [(1,(mF 0 r1 (hB 0) 47))] (jE [[1],[0],[],[]]) (aG (aB ?_))))
  exact mR (v:=(.tuple #[uZ,vi 0,vi 5])) (fun _ hS=>⟨congrArg IL (hs_err (rdE5 (oA (yT b1))) dC),hS.dM⟩)
 refine aY f117 8 [0,1,4,5,6,7,15] [] (let qa:JA:=.bool (decide ((B.length:Int)<z));[vi z,vF,vF,vi z,aW a B.length c,vn B.length,qa,qa]) [] (jY 1<|eU vF (jP b1)<|jX 6) (oC (decide ((B.length:Int)<z)) (fun b2=>?_) (fun b2=>?_))
 ·rw [b2]
  refine aY f117 4 [0,1,4,5,6,7] [] [uZ,Jz,vi 0,vi 5] [(1,(mF 0 r1 (hB 0) 47))] (jE [[1],[0],[],[]]) (aG (aB ?_))
  exact mR (v:=(.tuple #[uZ,vi 0,vi 5])) (fun _ hS=>⟨congrArg IL (hs_err (rdE5 (oB (yF b1) (yT b2))) dC),hS.dM⟩)
 rw [b2]
 have:=yF b2
 refine aI (aA (aC (aY f117 5 [0,1,4,5,6,7,21] [] [aW a B.length c,vn B.length,vi z,pV B.length z,.bool (decide (((B.length:Int)-z)<32))] [] (jY 3<|FC ((B.length:Int)-z) (oA (yF b1))<|jX 1) (oC (decide (((B.length:Int)-z)<32)) (fun b3=>?_) (fun b3=>?_)))))
 ·rw [b3]
  refine aY f117 4 [0,1,4,5,6,7] [] [uZ,Jz,vi 0,vi 1] [(1,(mF 0 r1 (hB 0) 47))] (jE [[1],[0],[],[]]) (aG (aB ?_))
  exact mR (v:=(.tuple #[uZ,vi 0,vi 1])) (fun _ hS=>⟨congrArg IL (hs_err (rdE1 (oB (yF b1) (yT b3)) (oB (yF b1) (yT b3))) dC),hS.dM⟩)
 rw [b3]
 have:=yF b3
 refine aI (aA (sDf f117 [0,0,0,6,15] 5 [1,4,5,6,7] [] (fun _=>[vs (nb r2 0) (hL 0).length 32,aW a B.length c,vi z,gW (nT B z.toNat B.length) (yI a z.toNat c) (c-z.toNat),CG (nT B z.toNat B.length)]) (fun _=>[(4,(jD 1 r2 0 (hB (nB ((nT B z.toNat B.length).take 32))) 47))]) (fun _=>[(3,fun w=>Bs w (yI a z.toNat c) (c-z.toNat) (nT B z.toNat B.length))]) (fun _=>(fun w=>Bs w a c B/\Bs w (yI a z.toNat c) (c-z.toNat) (nT B z.toNat B.length)/\True)) (fun _=>True) (fun _ _ hF hf=>⟨⟨hF.1,hf 3,trivial⟩,trivial⟩) (jY 3<|cX (jF (fun _=>IZ 35 (aW a B.length c) (some (vi z)) none none) (fun _=>(gW (nT B z.toNat B.length) (yI a z.toNat c) (c-z.toNat))) (fun _ _ _ hG=>Bv (l:=z.toNat) (k:=B.length) underlying35 uT hG.fn.1 rfl (Jb (congrArg (fun z=>some (IR .i64 z)) (oA (yF b1)))) (Jh ⟨rfl,rfl⟩) (oA (yF b1)) (IP _)) (fun _ _ w hG=>hG.iE.mono (fun _ hF=>hF.1.nT (oA (yF b1)) (IP _))))<|cX (pR _ 1 (fun _=>do pure (IX (<- Jo #[35,35] 3 #[lY r2 0 32,gW (nT B z.toNat B.length) (yI a z.toNat c) (c-z.toNat)]))) (fun _=>nb r2 0) (fun _=>(cL (hB 0) 47)) (fun _=>(cL (hB (nB ((nT B z.toNat B.length).take 32))) 47)) (fun _=>(CG (nT B z.toNat B.length))) (fun _=>kr) (fun _=>kr) (fun _=>kr) (fun _=>kr) tV (fun _ _ w hG hg=>(by as_aux_lemma=>(rw [<- copy_hash (by rw [oJ _ _ _ (IP _)];have:=yF b1;omega)];exact copy_row underlying35 uT hg (show Bs w (yI a z.toNat c) (c-z.toNat) (nT B z.toNat B.length) from (hG.facts 3 rfl).now) rfl (by rw [vY];exact IP _)))))<|cN) (fun _ _=>aY f117 6 [4,5,6] [1,0] [oG (nB ((nT B z.toNat B.length).take 32)),vi z,vi (z+32),Jz,vi (z+32),vi 0] [(3,(mF 0 r1 (hB (nB ((nT B z.toNat B.length).take 32))) 47))] (cR [[1],[]]<|FC (z+32) (oA (yF b1))<|jE [[0],[],[]]) (aG ?_))))
 exact mR (v:=(.tuple #[oG (nB ((nT B z.toNat B.length).take 32)),vi (z+32),vi 0])) (fun _ hS=>⟨congrArg IL (hs_ok (rdE0 (oA (yF b1)) (oA (yF b1)))),hS.dM⟩)
abbrev qy232:=fun p0 p1 p2=>(cL #[bU p0,bU (mV p1)] p2:Obj)
theorem kencode_any (k:Ky) (hk:k.Ok) (w0:JB):Calls prog 72 #[bW (kY k)] w0 (fun ε w'=>∃ α κ,ε=.returned (gW (uG k) α κ)/\jG w0 w'/\Fs w0 w' α κ (uG k)):=by
 refine Calls.cW 34 (fun _=>True) func72 rfl rfl rfl jT (sS f72 2 [1,2] [] (fun r=>[bG r 0,vz]) (fun r=>(pO 0 r (kY k) 56)) (jX 2) (fun r1=>sD f72 [0,1,0,4,15] 5 [1,2,3,4] [] (fun r=>[bH r1 0 4,U k.p,bG r 2,bU 0,Jz]) (fun r=>[(2,(fB r 2 (cU 0) 54)),(4,(jD 17 r 2 (cU k.p) 54))]) (jE [[],[0],[],[],[17]]) (fun r2=>aC (aY f72 4 [1,2,3,4,11] [] [bG r1 0,U k.s,U 0,.bool (!decide (k.s=0))] [] (cR nS<|cB (a:=fun r=>(U k.s)) (b:=fun r=>(U 0)) (v:=fun r=>(.bool (!decide (k.s=0)))) .neq 54 (fun _ _=>neqU k.s 0 hk.s dK _)<|cN) (oC (!decide (k.s=0)) (fun h1=>?_) (fun h1=>?_))))))
 ·rw [h1]
  refine rDc f72 [0,1,0,7] 4 [1,2,3,4] [] [bG r1 0,U k.s,bU 1,Jz] [(3,(jD 1 r2 2 (cU k.s) 54))] (jE [[],[0],[],[1]]) (aA (wW f72 9 [1,2,4,5] [1,1,0] (fun r=>let qa:JA:=.slice (oa r 7) (([ob 1,ob (mV k.d)]:LU)++fZ k.i 4).length (nb r 7);[bU 1,bH r1 0 40,vi k.d,bU (mV k.d),DI r 4 [ob 1,ob (mV k.d)] 2,bH r1 0 41,vu k.i,qa,qa]) (fun r=>[(4,(nw r 4 (qy232 1 k.d 5)))]) (fun r=>[(7,fun w=>Fs w0 w (oa r 7) (nb r 7) (([ob 1,ob (mV k.d)]:LU)++fZ k.i 4))]) (fun r=>(fun w=>Fs w0 w (oa r 7) (nb r 7) (([ob 1,ob (mV k.d)]:LU)++fZ k.i 4)/\True)) (fun _=>True) (fun _ _ _ hf=>⟨⟨hf 7,trivial⟩,trivial⟩) (cR qA<|cA (v:=fun r=>(bU (IW.wrap k.d))) (fun _=>(bU (mV k.d))) (fun _=>congrArg (IR .u8) (rfl))<|cR qA<|cX (qB (fun r _ w hG=>zN (rF r 4 0) 2 ([ob 1,ob (mV k.d)]:LU) k.i (oB hk.i hk.n) (by simp only [II,IJ,IK,dX,aT];have:=hk.i;have:=hk.n;omega) w (Bs.o7 (hG.kn (g:=nb r 4) (o:=(qy232 1 k.d 5)) 34) (hd2 dC (dpI_rng _)) (IP 2) lb)))<|jX 1) (fun r5 _=>wW f72 5 [1,2,4,5] [] (fun r=>let qa:JA:=.slice (oa r 3) ((([ob 1,ob (mV k.d)]:LU)++fZ k.i 4)++fZ k.n 4).length (nb r 3);[gW (([ob 1,ob (mV k.d)]:LU)++fZ k.i 4) (oa r5 7) (nb r5 7),bH r1 0 42,vu k.n,qa,qa]) eN (fun r=>[(3,fun w=>Fs w0 w (oa r 3) (nb r 3) ((([ob 1,ob (mV k.d)]:LU)++fZ k.i 4)++fZ k.n 4))]) (fun r=>(fun w=>Fs w0 w (oa r5 7) (nb r5 7) (([ob 1,ob (mV k.d)]:LU)++fZ k.i 4)/\Fs w0 w (oa r 3) (nb r 3) ((([ob 1,ob (mV k.d)]:LU)++fZ k.i 4)++fZ k.n 4)/\True)) (fun _=>True) (fun _ _ hF hf=>⟨⟨hF.1,hf 3,trivial⟩,trivial⟩) (cR qA<|qBc (fun hG=>zN (oa r5 7) (nb r5 7) (([ob 1,ob (mV k.d)]:LU)++fZ k.i 4) k.n (oB hk.i hk.n) (by simp only [II,IJ,IK,dX,aT];have:=hk.i;have:=hk.n;omega) _ hG.fn.1.1)<|jX 1) (fun r6 _=>wW f72 5 [2,4,5] [0,1] (fun r=>let qa:JA:=.slice (oa r 3) (((([ob 1,ob (mV k.d)]:LU)++fZ k.i 4)++fZ k.n 4)++hL k.c).length (nb r 3);[gW ((([ob 1,ob (mV k.d)]:LU)++fZ k.i 4)++fZ k.n 4) (oa r6 3) (nb r6 3),bH r1 0 8,oG k.c,qa,qa]) eN (fun r=>[(3,fun w=>Fs w0 w (oa r 3) (nb r 3) (((([ob 1,ob (mV k.d)]:LU)++fZ k.i 4)++fZ k.n 4)++hL k.c))]) (fun r=>(fun w=>Fs w0 w (oa r5 7) (nb r5 7) (([ob 1,ob (mV k.d)]:LU)++fZ k.i 4)/\Fs w0 w (oa r6 3) (nb r6 3) ((([ob 1,ob (mV k.d)]:LU)++fZ k.i 4)++fZ k.n 4)/\Fs w0 w (oa r 3) (nb r 3) (((([ob 1,ob (mV k.d)]:LU)++fZ k.i 4)++fZ k.n 4)++hL k.c)/\True)) (fun _=>True) (fun _ _ hF hf=>⟨⟨hF.1,hF.2.1,hf 3,trivial⟩,trivial⟩) (cR qA<|qBc (fun hG=>Bq (oa r6 3) (nb r6 3) ((([ob 1,ob (mV k.d)]:LU)++fZ k.i 4)++fZ k.n 4) k.c hk.c (by simp only [II,IJ,IK,dX,aT];have:=hk.i;have:=hk.n;omega) _ hG.fn.2.1.1)<|jX 1) (fun r7 _=>wW f72 5 [2] [0] (fun r=>let qa:JA:=.slice (oa r 3) ((((([ob 1,ob (mV k.d)]:LU)++fZ k.i 4)++fZ k.n 4)++hL k.c)++hL k.s).length (nb r 3);[gW (((([ob 1,ob (mV k.d)]:LU)++fZ k.i 4)++fZ k.n 4)++hL k.c) (oa r7 3) (nb r7 3),U k.s,oG k.s,qa,qa]) eN (fun r=>[(3,fun w=>Fs w0 w (oa r 3) (nb r 3) ((((([ob 1,ob (mV k.d)]:LU)++fZ k.i 4)++fZ k.n 4)++hL k.c)++hL k.s))]) (fun r=>(fun w=>Fs w0 w (oa r5 7) (nb r5 7) (([ob 1,ob (mV k.d)]:LU)++fZ k.i 4)/\Fs w0 w (oa r6 3) (nb r6 3) ((([ob 1,ob (mV k.d)]:LU)++fZ k.i 4)++fZ k.n 4)/\Fs w0 w (oa r7 3) (nb r7 3) (((([ob 1,ob (mV k.d)]:LU)++fZ k.i 4)++fZ k.n 4)++hL k.c)/\Fs w0 w (oa r 3) (nb r 3) ((((([ob 1,ob (mV k.d)]:LU)++fZ k.i 4)++fZ k.n 4)++hL k.c)++hL k.s)/\True)) (fun _=>True) (fun _ _ hF hf=>⟨⟨hF.1,hF.2.1,hF.2.2.1,hf 3,trivial⟩,trivial⟩) (cR [[],[0]]<|oO (bytes_any k.s)<|qBc (fun hG=>Bq (oa r7 3) (nb r7 3) (((([ob 1,ob (mV k.d)]:LU)++fZ k.i 4)++fZ k.n 4)++hL k.c) k.s hk.s (by simp only [II,IJ,IK,dX,aT];have:=hk.i;have:=hk.n;omega) _ hG.fn.2.2.1.1)<|jX 1) (fun r8 _=>aG (mD [(2,(gW ((((([ob 1,ob (mV k.d)]:LU)++fZ k.i 4)++fZ k.n 4)++hL k.c)++hL k.s) (oa r8 3) (nb r8 3)))] [] ?_)))))))
  exact mR (v:=(gW ((((([ob 1,ob (mV k.d)]:LU)++fZ k.i 4)++fZ k.n 4)++hL k.c)++hL k.s) (oa r8 3) (nb r8 3))) (fun _ hS=>⟨oa r8 3,nb r8 3,congrArg IL (by rw [<- en_1 (kP h1)]),hS.dM,rC (en_1 (kP h1)) hS.facts.now.2.2.2.1⟩)
 rw [h1]
 refine aI (aA (wW f72 9 [1,2,4,5] [1,1,0] (fun r=>let qa:JA:=.slice (oa r 7) (([ob 0,ob (mV k.d)]:LU)++fZ k.i 4).length (nb r 7);[bU 0,bH r1 0 40,vi k.d,bU (mV k.d),DI r 4 [ob 0,ob (mV k.d)] 2,bH r1 0 41,vu k.i,qa,qa]) (fun r=>[(4,(nw r 4 (qy232 0 k.d 5)))]) (fun r=>[(7,fun w=>Fs w0 w (oa r 7) (nb r 7) (([ob 0,ob (mV k.d)]:LU)++fZ k.i 4))]) (fun r=>(fun w=>Fs w0 w (oa r 7) (nb r 7) (([ob 0,ob (mV k.d)]:LU)++fZ k.i 4)/\True)) (fun _=>True) (fun _ _ _ hf=>⟨⟨hf 7,trivial⟩,trivial⟩) (cR qA<|cA (v:=fun r=>(bU (IW.wrap k.d))) (fun _=>(bU (mV k.d))) (fun _=>congrArg (IR .u8) (rfl))<|cR qA<|cX (qB (fun r _ w hG=>zN (rF r 4 0) 2 ([ob 0,ob (mV k.d)]:LU) k.i (oB hk.i hk.n) (by simp only [II,IJ,IK,dX,aT];have:=hk.i;have:=hk.n;omega) w (Bs.o7 (hG.kn (g:=nb r 4) (o:=(qy232 0 k.d 5)) 34) (hd2 dC (dpI_rng _)) (IP 2) lb)))<|jX 1) (fun r9 _=>wW f72 5 [1,2,4,5] [] (fun r=>let qa:JA:=.slice (oa r 3) ((([ob 0,ob (mV k.d)]:LU)++fZ k.i 4)++fZ k.n 4).length (nb r 3);[gW (([ob 0,ob (mV k.d)]:LU)++fZ k.i 4) (oa r9 7) (nb r9 7),bH r1 0 42,vu k.n,qa,qa]) eN (fun r=>[(3,fun w=>Fs w0 w (oa r 3) (nb r 3) ((([ob 0,ob (mV k.d)]:LU)++fZ k.i 4)++fZ k.n 4))]) (fun r=>(fun w=>Fs w0 w (oa r9 7) (nb r9 7) (([ob 0,ob (mV k.d)]:LU)++fZ k.i 4)/\Fs w0 w (oa r 3) (nb r 3) ((([ob 0,ob (mV k.d)]:LU)++fZ k.i 4)++fZ k.n 4)/\True)) (fun _=>True) (fun _ _ hF hf=>⟨⟨hF.1,hf 3,trivial⟩,trivial⟩) (cR qA<|qBc (fun hG=>zN (oa r9 7) (nb r9 7) (([ob 0,ob (mV k.d)]:LU)++fZ k.i 4) k.n (oB hk.i hk.n) (by simp only [II,IJ,IK,dX,aT];have:=hk.i;have:=hk.n;omega) _ hG.fn.1.1)<|jX 1) (fun r10 _=>wW f72 5 [2,4,5] [0,1] (fun r=>let qa:JA:=.slice (oa r 3) (((([ob 0,ob (mV k.d)]:LU)++fZ k.i 4)++fZ k.n 4)++hL k.c).length (nb r 3);[gW ((([ob 0,ob (mV k.d)]:LU)++fZ k.i 4)++fZ k.n 4) (oa r10 3) (nb r10 3),bH r1 0 8,oG k.c,qa,qa]) eN (fun r=>[(3,fun w=>Fs w0 w (oa r 3) (nb r 3) (((([ob 0,ob (mV k.d)]:LU)++fZ k.i 4)++fZ k.n 4)++hL k.c))]) (fun r=>(fun w=>Fs w0 w (oa r9 7) (nb r9 7) (([ob 0,ob (mV k.d)]:LU)++fZ k.i 4)/\Fs w0 w (oa r10 3) (nb r10 3) ((([ob 0,ob (mV k.d)]:LU)++fZ k.i 4)++fZ k.n 4)/\Fs w0 w (oa r 3) (nb r 3) (((([ob 0,ob (mV k.d)]:LU)++fZ k.i 4)++fZ k.n 4)++hL k.c)/\True)) (fun _=>True) (fun _ _ hF hf=>⟨⟨hF.1,hF.2.1,hf 3,trivial⟩,trivial⟩) (cR qA<|qBc (fun hG=>Bq (oa r10 3) (nb r10 3) ((([ob 0,ob (mV k.d)]:LU)++fZ k.i 4)++fZ k.n 4) k.c hk.c (by simp only [II,IJ,IK,dX,aT];have:=hk.i;have:=hk.n;omega) _ hG.fn.2.1.1)<|jX 1) (fun r11 _=>wW f72 5 [2] [0] (fun r=>let qa:JA:=.slice (oa r 3) ((((([ob 0,ob (mV k.d)]:LU)++fZ k.i 4)++fZ k.n 4)++hL k.c)++hL k.p).length (nb r 3);[gW (((([ob 0,ob (mV k.d)]:LU)++fZ k.i 4)++fZ k.n 4)++hL k.c) (oa r11 3) (nb r11 3),U k.p,oG k.p,qa,qa]) eN (fun r=>[(3,fun w=>Fs w0 w (oa r 3) (nb r 3) ((((([ob 0,ob (mV k.d)]:LU)++fZ k.i 4)++fZ k.n 4)++hL k.c)++hL k.p))]) (fun r=>(fun w=>Fs w0 w (oa r9 7) (nb r9 7) (([ob 0,ob (mV k.d)]:LU)++fZ k.i 4)/\Fs w0 w (oa r10 3) (nb r10 3) ((([ob 0,ob (mV k.d)]:LU)++fZ k.i 4)++fZ k.n 4)/\Fs w0 w (oa r11 3) (nb r11 3) (((([ob 0,ob (mV k.d)]:LU)++fZ k.i 4)++fZ k.n 4)++hL k.c)/\Fs w0 w (oa r 3) (nb r 3) ((((([ob 0,ob (mV k.d)]:LU)++fZ k.i 4)++fZ k.n 4)++hL k.c)++hL k.p)/\True)) (fun _=>True) (fun _ _ hF hf=>⟨⟨hF.1,hF.2.1,hF.2.2.1,hf 3,trivial⟩,trivial⟩) (cR [[],[0]]<|oO (bytes_any k.p)<|qBc (fun hG=>Bq (oa r11 3) (nb r11 3) (((([ob 0,ob (mV k.d)]:LU)++fZ k.i 4)++fZ k.n 4)++hL k.c) k.p hk.p (by simp only [II,IJ,IK,dX,aT];have:=hk.i;have:=hk.n;omega) _ hG.fn.2.2.1.1)<|jX 1) (fun r12 _=>aG (mD [(2,(gW ((((([ob 0,ob (mV k.d)]:LU)++fZ k.i 4)++fZ k.n 4)++hL k.c)++hL k.p) (oa r12 3) (nb r12 3)))] [] ?_)))))))
 exact mR (v:=(gW ((((([ob 0,ob (mV k.d)]:LU)++fZ k.i 4)++fZ k.n 4)++hL k.c)++hL k.p) (oa r12 3) (nb r12 3))) (fun _ hS=>⟨oa r12 3,nb r12 3,congrArg IL (by rw [<- en_0 (dI h1)]),hS.dM,rC (en_0 (dI h1)) hS.facts.now.2.2.2.1⟩)
abbrev qy31:=fun p0=>kC 0 (nU p0 42) (nU p0 10) (gB p0 1:Int) ((yQ p0 2 4:Nat):Int) ((yQ p0 6 4:Nat):Int)
abbrev qy32:=fun p0=>kC (nU p0 42) (oW (nU p0 42)) (nU p0 10) (gB p0 1:Int) ((yQ p0 2 4:Nat):Int) ((yQ p0 6 4:Nat):Int)
abbrev qy98:=fun p0=>kC 0 0 (nU p0 10) (gB p0 1:Int) ((yQ p0 2 4:Nat):Int) ((yQ p0 6 4:Nat):Int)
abbrev FQ:=fun p0=>(.tuple #[.agg zF,vi p0]:JA)
abbrev Ir:=fun p0=>vi (sQ (nU p0 42))
abbrev qy176:=fun p0 p1 p2 p3=>(.tuple #[oG (nU p0 p1),p2,p3]:JA)
abbrev qy187:=fun p0=>kC (nU p0 42) 0 (nU p0 10) (gB p0 1:Int) ((yQ p0 2 4:Nat):Int) ((yQ p0 6 4:Nat):Int)
abbrev qy209:=fun p0=>kC 0 0 0 (gB p0 1:Int) 0 0
abbrev Ij:=fun p0=>[(1,(mF 0 p0 zF 56))]
theorem kdecode_any (a:OA) (c:Nat) (B:LU) (w0:JB) (hf0:Bs w0 a c B):Calls prog 111 #[aW a B.length c] w0 (jR (.tuple #[bW (kY (iP B)),vi (Ba B)]) w0):=by
 refine Calls.cW 84 (fun w=>Bs w a c B/\True) func111 rfl rfl rfl (hf0.dW.and iD) ?_
 have hBl:B.length<=140737488351232:=hf0.max
 refine sS f111 2 [0,2,3] [] (fun r=>[bG r 0,vi 0]) (fun r=>[(0,(fB r 0 zF 56))]) (jX 2) (fun r1=>aC (jJ f111 3 [0,2,3,13] [aW a B.length c,vn B.length,.bool ((B.length:Int) != 74)] (oC ((B.length:Int) != 74) (fun h1=>?_) (fun h1=>?_))))
 ·rw [h1]
  refine aY f111 3 [0,2,3] [] [.agg zF,Jz,vi 8] (Ij r1) (jE nS) (aG (aB ?_))
  exact mR (v:=(FQ 8)) (fun _ hS=>⟨by rw [(dc_8 (len74n h1)).1,(dc_8 (len74n h1)).2];rfl,hS.dM⟩)
 rw [h1]
 refine aI (aA (aC ?_))
 rcases jO (decide (1<(gB B 0:Int))) with h2 | h2
 ·refine aY f111 10 [0,2,3,24] [] [aW a B.length c,pX (zM a 0),vy (gB B 0),vT,vT,Jz,Jz,Jz,Jz,vT] [] (jY 1<|nM (fun hG=>nO (k:=.i64) underlying35 uT hG.fn.1 rfl (show 0=((0:Nat):Int) from rfl) (show 0<B.length from (oA (mX h1))))<|nM (fun hG=>pU isAgg5 hG.fn.1 (show 0<B.length from (oA (mX h1))))<|eU vT (jP h2)<|jX 6) (oY (aY f111 3 [0,2,3] [] [.agg zF,Jz,vi 5] (Ij r1) (jE nS) (aG (aB ?_))))
  exact mR (v:=(FQ 5)) (fun _ hS=>⟨by rw [(dc_5 (mX h1) (Jh (oA (yT h2)))).1,(dc_5 (mX h1) (Jh (oA (yT h2)))).2];rfl,hS.dM⟩)
 refine aY f111 10 [0,2,3,24] [] (let qa:JA:=.bool (decide (8<(gB B 1:Int)));[aW a B.length c,pX (zM a 0),vy (gB B 0),vF,vF,aW a B.length c,pX (zM a 1),vy (gB B 1),qa,qa]) [] (jY 1<|nM (fun hG=>nO (k:=.i64) underlying35 uT hG.fn.1 rfl (show 0=((0:Nat):Int) from rfl) (show 0<B.length from (oA (mX h1))))<|nM (fun hG=>pU isAgg5 hG.fn.1 (show 0<B.length from (oA (mX h1))))<|eU vF (jP h2)<|jY 2<|nM (fun hG=>nO (k:=.i64) underlying35 uT hG.fn.1 rfl (show 1=((1:Nat):Int) from rfl) (show 1<B.length from (oA (mX h1))))<|nM (fun hG=>pU isAgg5 hG.fn.1 (show 1<B.length from (oA (mX h1))))<|jX 2) (oC (decide (8<(gB B 1:Int))) (fun h3=>?_) (fun h3=>?_))
 ·rw [h3]
  refine aY f111 3 [0,2,3] [] [.agg zF,Jz,vi 5] (Ij r1) (jE nS) (aG (aB ?_))
  exact mR (v:=(FQ 5)) (fun _ hS=>⟨by rw [(dc_5 (mX h1) (Jb (oA (yT h3)))).1,(dc_5 (mX h1) (Jb (oA (yT h3)))).2];rfl,hS.dM⟩)
 rw [h3]
 have:=yF h3
 have zh1:1<B.length:=(oA (mX h1))
 have zh2:0<B.length:=(oA (mX h1))
 refine aI (aA (sS f111 7 [0,2,3,4] [] (fun r=>[aW a B.length c,pX (zM a 1),vy (gB B 1),vn (gB B 1),bW (qy209 B),bG r 5,Jz]) (fun r=>[(5,(fB r 5 zF 56)),(6,(jD 41 r 5 (qy209 B) 56))]) (jY 1<|nM (fun hG=>nO (k:=.i64) underlying35 uT hG.fn.1 rfl (show 1=((1:Nat):Int) from rfl) zh1)<|nM (fun hG=>pU isAgg5 hG.fn.1 zh1)<|DV (gB B 1:Int) (gB B 1) (pY (oB (yF h2) (gV B 1)))<|jE [[],[],[41]]) (fun r8=>aY f111 8 [0,2,3,4] [] [aW a B.length c,Iu B 2 4 B.length,Iu B 2 4 B.length,vu (yQ B 2 4),vi (Gq B.length 2 4),rH B.length 2 4,bH r8 5 41,Jz] [(7,(jD 1 r8 5 (kC 0 0 0 (gB B 1:Int) ((yQ B 2 4:Nat):Int) 0) 56))] (jY 1<|zW (fun hG=>u32_any a c B 2 dC hBl _ hG.fn.1)<|jE [[],[],[],[],[],[1]]) (aY f111 8 [0,2,3,4] [] [aW a B.length c,Iu B 6 4 B.length,Iu B 6 4 B.length,vu (yQ B 6 4),vi (Gq B.length 6 4),rH B.length 6 4,bH r8 5 42,Jz] [(7,(jD 1 r8 5 (kC 0 0 0 (gB B 1:Int) ((yQ B 2 4:Nat):Int) ((yQ B 6 4:Nat):Int)) 56))] (jY 1<|zW (fun hG=>u32_any a c B 6 dC hBl _ hG.fn.1)<|jE [[],[],[],[],[],[1]]) (aY f111 8 [0,2,3,4] [] (let qa:=vi (Gq B.length 10 32);let qb:=vi (DX B.length 10 32);[aW a B.length c,qy176 B 10 qa qb,qy176 B 10 qa qb,oG (nU B 10),qa,qb,bH r8 5 8,Jz]) [(7,(jD 1 r8 5 (qy98 B) 56))] (jY 1<|zW (fun hG=>hash_any a c B 10 dC hBl _ hG.fn.1)<|jE [[],[],[],[],[],[1]]) (sS f111 10 [0,2,3,4,5] [] (fun r=>let qa:=vi (Gq B.length 42 32);let qb:=vi (DX B.length 42 32);[aW a B.length c,qy176 B 42 qa qb,qy176 B 42 qa qb,oG (nU B 42),qa,qb,bG r 6,Jz,qa,qb]) (fun r=>[(6,(fB r 6 (hB 0) 47)),(7,(jD 50 r 6 (hB (nU B 42)) 47))]) (jY 1<|zW (fun hG=>hash_any a c B 42 dC hBl _ hG.fn.1)<|jE [[],[],[],[],[],[50],[],[]]) (fun _=>sS f111 4 [0,2,3,4,8] [1,1,0,1] (fun r=>[oG (nU B 42),U (nU B 42),bG r 2,Jz]) (fun r=>[(2,(fB r 2 (cU 0) 54)),(3,(jD 19 r 2 (cU (nU B 42)) 54))]) (cR [[2]]<|oO (frombytes_any (nU B 42))<|jE [[],[19]]) (fun r13=>aC (aY f111 4 [2,3,4,8,63] [] [aW a B.length c,pX (zM a 0),vy (gB B 0),.bool ((gB B 0:Int)==0)] [] (jY 1<|nM (fun hG=>nO (k:=.i64) underlying35 uT hG.fn.1 rfl (show 0=((0:Nat):Int) from rfl) zh2)<|nM (fun hG=>pU isAgg5 hG.fn.1 zh2)<|jX 1) (oC ((gB B 0:Int)==0) (fun h4=>?_) (fun h4=>?_)))))))))))
 ·rw [h4]
  refine aC (aY f111 3 [2,3,4,8,66] [] [U (nU B 42),.bool (wH (nU B 42)),.bool (!(wH (nU B 42)))] [] (cR [[2]]<|oO (valid_any (nU B 42) GI)<|jX 1) (oC (!(wH (nU B 42))) (fun h5=>?_) (fun h5=>?_)))
  ·rw [h5]
   refine aY f111 3 [2,3,4,8] [] [.agg zF,Jz,vi 60] (Ij r1) (jE nS) (aG (aB (aB ?_)))
   exact mR (v:=(FQ 60)) (fun _ hS=>⟨by rw [(dc_v0 (mX h1) (oA (yF h2)) (b01 h4) (kP h5)).1,(dc_v0 (mX h1) (oA (yF h2)) (b01 h4) (kP h5)).2]<;>rfl,hS.dM⟩)
  rw [h5]
  refine aI (aA (aY f111 3 [2,3,4,8] [] [U (nU B 42),bH r8 5 4,Jz] [(2,(jD 1 r8 5 (qy31 B) 56))] (jE [[2],[],[1]]) (uF [(2,(bG r1 0)),(3,(vi 0)),(4,(bG r8 5)),(8,(bG r13 2))] [(nb r1 0,(cL zF 56)),(nb r8 5,(cL (qy31 B) 56)),(nb r13 2,(yY (nU B 42)))] (aY f111 3 [2,3,4,8] [] [bW (qy31 B),Jz,vi 0] [(1,(mF 0 r1 (qy31 B) 56))] (jE [[1],[0],[]]) (aG (aB ?_))))))
  exact mR (v:=(.tuple #[bW (qy31 B),vi 0])) (fun _ hS=>⟨by rw [(dc_v1 (mX h1) (oA (yF h2)) (b01 h4) (dI h5)).1,(dc_v1 (mX h1) (oA (yF h2)) (b01 h4) (dI h5)).2]<;>rfl,hS.dM⟩)
 rw [h4]
 refine aI (aA (sS f111 8 [2,3,4,8,9,10] [] (fun r=>[U (nU B 42),qy65 (nU B 42),qy65 (nU B 42),U (oW (nU B 42)),Ir B,bG r 5,Jz,Ir B]) (fun r=>[(5,(fB r 5 (cU 0) 54)),(6,(jD 43 r 5 (cU (oW (nU B 42))) 54))]) (cR [[2]]<|oO (public_any (nU B 42) GI)<|jE [[],[],[],[],[43],[]]) (fun r19=>aC (jJ f111 2 [2,3,4,8,9,77] [Ir B,.bool ((sQ (nU B 42)) != 0)] (uF [(2,(bG r1 0)),(3,(vi 0)),(4,(bG r8 5)),(8,(bG r13 2)),(9,(bG r19 5)),(77,(.bool ((sQ (nU B 42)) != 0)))] [(nb r1 0,(cL zF 56)),(nb r8 5,(cL (qy98 B) 56)),(nb r13 2,(yY (nU B 42))),(nb r19 5,(yY (oW (nU B 42))))] (oC ((sQ (nU B 42)) != 0) (fun h6=>?_) (fun h6=>?_)))))))
 ·rw [h6]
  refine aY f111 3 [2,3,4,8,9] [] [.agg zF,Jz,vi 60] (Ij r1) (jE nS) (aG (aB ?_))
  exact mR (v:=(FQ 60)) (fun _ hS=>⟨by rw [(dc_s0 (mX h1) (oA (yF h2)) (b00 h4) (G9 h6)).2.1,(dc_s0 (mX h1) (oA (yF h2)) (b00 h4) (G9 h6)).2.2];rfl,hS.dM⟩)
 rw [h6]
 refine aI (aA (Au f111 [0,0,1,5,15,31] 6 [2,3,4] [1,1,0,0] [U (nU B 42),U (oW (nU B 42)),bG r8 5,Jz,bH r8 5 4,Jz] [(3,(jD 1 r8 5 (qy187 B) 56)),(5,(jD 1 r8 5 (qy32 B) 56))] (jE [[2],[3],[],[1],[],[1]]) (aY f111 3 [2,3] [1,0] [bW (qy32 B),Jz,vi 0] [(1,(mF 0 r1 (qy32 B) 56))] (jE [[1],[0],[]]) (aG ?_))))
 exact mR (v:=(.tuple #[bW (qy32 B),vi 0])) (fun _ hS=>⟨by rw [(dc_s1 (mX h1) (oA (yF h2)) (b00 h4) (bQ h6)).1,(dc_s1 (mX h1) (oA (yF h2)) (b00 h4) (bQ h6)).2]<;>rfl,hS.dM⟩)
theorem kC_chain (s p c:Nat) (d i n:Int) (j:Nat) (hj:j<32):(kC s p c d i n)[8+j]? = (hB c)[j]? := by
 unfold kC
 rw [Array.getElem?_append_left (by simp [cU,vY];omega),Array.getElem?_append_right (by simp [cU]),show 8+j-(cU s++cU p).size=j by simp [cU]]
theorem Bs.of_key {w:JB} {g s p c:Nat} {d i n:Int} {T:TypeId} {fr:Nat × Nat} (hb:w.heap[g]? = some (.cells (kC s p c d i n) T fr)):Bs w (some ⟨g,8,none⟩) 32 (hL c):=by
 refine ⟨by rw [aT];exact IP _,by rw [aT];decide,Jb ⟨_,rfl,fun j v hv=>?_⟩⟩
 have hj:j<32:=by
  have:=(List.getElem?_eq_some_iff.1 hv).1
  rw [iI,aT] at this;exact this
 have h1:(hB c)[j]? = some v:=by
  have hh:=DK c
  unfold Hd at hh
  rw [<- hh,List.getElem?_take,if_pos (by rw [aT];exact hj)] at hv
  simpa using hv
 rw [show (⟨g,8,none⟩:Addr).add j=⟨g,8+j,none⟩ by simp [Addr.add]]
 unfold World.cell?
 simp only [hb]
 rw [<- h1,<- kC_chain s p c d i n j hj]
 simp
abbrev CP {α:Type} (p1:List α):=fun p0=>(.slice p0 p1.length 32:JA)
abbrev qy169:=fun p0 p1 p2 p3 p4 p5=>cL #[gW (p0++fZ p1 4) (oa p2 6) (nb p2 6),CP (hL p3) (rF p4 0 8),gW (hL p5) (oa p2 10) (nb p2 10)] 35
theorem rkencode_any (k:Ky) (hk:k.Ok) (w0:JB):Calls prog 73 #[bW (kY k)] w0 (fun ε w'=>∃ α κ,ε=.returned (gW (uG k) α κ)/\jG w0 w'/\Fs w0 w' α κ (uG k)):=by
 refine Calls.cW 32 (fun _=>True) func73 rfl rfl rfl jT (sS f73 2 [1,2] [] (fun r=>[bG r 0,vz]) (fun r=>(pO 0 r (kY k) 56)) (jX 2) (fun r1=>sS f73 5 [1,2,3] [] (fun r=>let qa:=vs (nb r 3) ([ob 0,ob (mV k.d)]:LU).length 2;[bH r1 0 40,vi k.d,bU (mV k.d),qa,qa]) (fun r=>[(3,(nw r 3 (qy232 0 k.d 5)))]) (cR [[],[0]]<|cA (v:=fun r=>(bU (IW.wrap k.d))) (fun _=>(bU (mV k.d))) (fun _=>congrArg (IR .u8) (rfl))<|jX 2) (fun r2=>sS f73 4 [1,2,3,4] [] (fun r=>[bH r1 0 4,U k.p,bG r 2,Jz]) (fun r=>[(2,(fB r 2 (cU 0) 54)),(3,(jD 18 r 2 (cU k.p) 54))]) (jE [[],[0],[],[18]]) (fun r3=>aC (aY f73 4 [1,2,3,4,14] [] [bG r1 0,U k.s,.bool (decide (k.s=0)),.bool (!(decide (k.s=0)))] [] (cR [[],[0]]<|cC (fun _ w=>o9 k.s w hk.s)<|jX 1) (oC (!(decide (k.s=0))) (fun b1=>?_) (fun b1=>?_)))))))
 ·rw [b1]
  refine lV f73 6 [1,2,3,4] [] [DI r2 3 [ob 0,ob (mV k.d)] 2,bG r1 0,U k.s,bH r2 3 0,Jz,Jz] [(4,(mQ 1 (nb r2 3) (qy232 1 k.d 5))),(5,(mF 2 r3 (cU k.s) 54))] (cR qA<|qSc (Bz (g:=nb r2 3) (c:=2) (k:=.i64) underlying35 uT (show 0=((0:Nat):Int) from rfl) (show 0<([ob 0,ob (mV k.d)]:LU).length from lb))<|CW 1 5 (nb r2 3) 0 (#[bU 0,bU (mV k.d)]) (#[bU 1,bU (mV k.d)]) 5 (bU 1) sizeOf5 lb rfl<|jE [[2]]) (aA (sDf f73 [0,0,2,7,0,16,63,0,128,0,639,2047,4095,8191] 14 [2] [0,0,0,0] (fun r=>let qa:JA:=.slice (oa r 12) ((((([ob 1,ob (mV k.d)]:LU)++fZ k.i 4)++fZ k.n 4)++(hL k.c))++(hL k.s)).length (nb r 12);let qb:=([ob 1,ob (mV k.d)]:LU);[DI r2 3 [ob 0,ob (mV k.d)] 2,bH r1 0 41,vu k.i,gW (qb++fZ k.i 4) (oa r 3) (nb r 3),bH r1 0 42,vu k.n,gW ((qb++fZ k.i 4)++fZ k.n 4) (oa r 6) (nb r 6),bH r1 0 8,CP (hL k.c) (rF r1 0 8),U k.s,gW (hL k.s) (oa r 10) (nb r 10),lY r 11 3,qa,qa]) (fun r=>[(11,(nw r 11 (qy169 (([ob 1,ob (mV k.d)]:LU)++fZ k.i 4) k.n r k.c r1 k.s)))]) (fun r=>[(3,fun w=>Fs w0 w (oa r 3) (nb r 3) (([ob 1,ob (mV k.d)]:LU)++fZ k.i 4)),(6,fun w=>Fs w0 w (oa r 6) (nb r 6) ((([ob 1,ob (mV k.d)]:LU)++fZ k.i 4)++fZ k.n 4)),(10,fun w=>Fs w0 w (oa r 10) (nb r 10) (hL k.s)),(12,fun w=>Fs w0 w (oa r 12) (nb r 12) ((((([ob 1,ob (mV k.d)]:LU)++fZ k.i 4)++fZ k.n 4)++(hL k.c))++(hL k.s)))]) (fun r=>(fun w=>Fs w0 w (oa r 3) (nb r 3) (([ob 1,ob (mV k.d)]:LU)++fZ k.i 4)/\Fs w0 w (oa r 6) (nb r 6) ((([ob 1,ob (mV k.d)]:LU)++fZ k.i 4)++fZ k.n 4)/\Fs w0 w (oa r 10) (nb r 10) (hL k.s)/\Fs w0 w (oa r 12) (nb r 12) ((((([ob 1,ob (mV k.d)]:LU)++fZ k.i 4)++fZ k.n 4)++(hL k.c))++(hL k.s))/\True)) (fun _=>True) (fun _ _ _ hf=>⟨⟨hf 3,hf 6,hf 10,hf 12,trivial⟩,trivial⟩) (cR qA<|qBc (fun hG=>yP (rF r2 3 0) 2 ([ob 1,ob (mV k.d)]:LU) k.i (oB hk.i hk.n) (by simp only [II,IJ,IK,dX,aT];have:=hk.i;have:=hk.n;omega) _ (Bs.o7 (hG.kn (g:=nb r2 3) (o:=(qy232 1 k.d 5)) 1) (hd2 dC (dpI_rng _)) (IP 2) lb))<|cR [[],[0]]<|cX (qB (fun r _ w hG=>yP (oa r 3) (nb r 3) (([ob 1,ob (mV k.d)]:LU)++fZ k.i 4) k.n (oB hk.i hk.n) (by simp only [II,IJ,IK,dX,aT];have:=hk.i;have:=hk.n;omega) w (show Fs w0 w (oa r 3) (nb r 3) (([ob 1,ob (mV k.d)]:LU)++fZ k.i 4) from (hG.facts 3 rfl).now).1))<|cR [[],[],[2]]<|qBc (fun _=>FW k.s hk.s _)<|jY 1<|cX (qB (fun r _ w hG=>join3_any (nb r 11) (oa r 6) (nb r 6) ((([ob 1,ob (mV k.d)]:LU)++fZ k.i 4)++fZ k.n 4) (rF r1 0 8) 32 (hL k.c) (oa r 10) (nb r 10) (hL k.s) (by simp only [II,IJ,IK,dX,aT];omega) (by simp only [II,IJ,IK,dX];omega) w (Kb.xB (hG.kn (g:=nb r 11) (o:=(qy169 (([ob 1,ob (mV k.d)]:LU)++fZ k.i 4) k.n r k.c r1 k.s)) 91)) (show Fs w0 w (oa r 6) (nb r 6) ((([ob 1,ob (mV k.d)]:LU)++fZ k.i 4)++fZ k.n 4) from (hG.facts 6 rfl).now).1 (Bs.of_key (hG.kn (g:=nb r1 0) (o:=(cL (kY k) 56)) 0)) (show Fs w0 w (oa r 10) (nb r 10) (hL k.s) from (hG.facts 10 rfl).now).1))<|jX 1) (fun r6 _=>aG (mD [(2,(gW ((((([ob 1,ob (mV k.d)]:LU)++fZ k.i 4)++fZ k.n 4)++(hL k.c))++(hL k.s)) (oa r6 12) (nb r6 12)))] [] ?_))))
  exact mR (v:=(gW ((((([ob 1,ob (mV k.d)]:LU)++fZ k.i 4)++fZ k.n 4)++(hL k.c))++(hL k.s)) (oa r6 12) (nb r6 12))) (fun _ hS=>⟨oa r6 12,nb r6 12,congrArg IL (by rw [<- en_1 (kP b1)]),hS.dM,rC (en_1 (kP b1)) hS.facts.now.2.2.2.1⟩)
 rw [b1]
 refine aI (aA (sDf f73 [0,0,2,7,0,16,63,0,128,0,639,2047,4095,8191] 14 [2] [0,0,0,0] (fun r=>let qa:=([ob 0,ob (mV k.d)]:LU);let qb:JA:=.slice (oa r 12) ((((qa++fZ k.i 4)++fZ k.n 4)++(hL k.c))++(hL k.p)).length (nb r 12);[vs (nb r2 3) qa.length 2,bH r1 0 41,vu k.i,gW (qa++fZ k.i 4) (oa r 3) (nb r 3),bH r1 0 42,vu k.n,gW ((qa++fZ k.i 4)++fZ k.n 4) (oa r 6) (nb r 6),bH r1 0 8,CP (hL k.c) (rF r1 0 8),U k.p,gW (hL k.p) (oa r 10) (nb r 10),lY r 11 3,qb,qb]) (fun r=>[(11,(nw r 11 (qy169 (([ob 0,ob (mV k.d)]:LU)++fZ k.i 4) k.n r k.c r1 k.p)))]) (fun r=>[(3,fun w=>Fs w0 w (oa r 3) (nb r 3) (([ob 0,ob (mV k.d)]:LU)++fZ k.i 4)),(6,fun w=>Fs w0 w (oa r 6) (nb r 6) ((([ob 0,ob (mV k.d)]:LU)++fZ k.i 4)++fZ k.n 4)),(10,fun w=>Fs w0 w (oa r 10) (nb r 10) (hL k.p)),(12,fun w=>Fs w0 w (oa r 12) (nb r 12) ((((([ob 0,ob (mV k.d)]:LU)++fZ k.i 4)++fZ k.n 4)++(hL k.c))++(hL k.p)))]) (fun r=>(fun w=>Fs w0 w (oa r 3) (nb r 3) (([ob 0,ob (mV k.d)]:LU)++fZ k.i 4)/\Fs w0 w (oa r 6) (nb r 6) ((([ob 0,ob (mV k.d)]:LU)++fZ k.i 4)++fZ k.n 4)/\Fs w0 w (oa r 10) (nb r 10) (hL k.p)/\Fs w0 w (oa r 12) (nb r 12) ((((([ob 0,ob (mV k.d)]:LU)++fZ k.i 4)++fZ k.n 4)++(hL k.c))++(hL k.p))/\True)) (fun _=>True) (fun _ _ _ hf=>⟨⟨hf 3,hf 6,hf 10,hf 12,trivial⟩,trivial⟩) (cR qA<|qBc (fun hG=>yP (rF r2 3 0) 2 ([ob 0,ob (mV k.d)]:LU) k.i (oB hk.i hk.n) (by simp only [II,IJ,IK,dX,aT];have:=hk.i;have:=hk.n;omega) _ (Bs.o7 (hG.kn (g:=nb r2 3) (o:=(qy232 0 k.d 5)) 1) (hd2 dC (dpI_rng _)) (IP 2) lb))<|cR [[],[0]]<|cX (qB (fun r _ w hG=>yP (oa r 3) (nb r 3) (([ob 0,ob (mV k.d)]:LU)++fZ k.i 4) k.n (oB hk.i hk.n) (by simp only [II,IJ,IK,dX,aT];have:=hk.i;have:=hk.n;omega) w (show Fs w0 w (oa r 3) (nb r 3) (([ob 0,ob (mV k.d)]:LU)++fZ k.i 4) from (hG.facts 3 rfl).now).1))<|cR [[],[],[2]]<|qBc (fun _=>FW k.p hk.p _)<|jY 1<|cX (qB (fun r _ w hG=>join3_any (nb r 11) (oa r 6) (nb r 6) ((([ob 0,ob (mV k.d)]:LU)++fZ k.i 4)++fZ k.n 4) (rF r1 0 8) 32 (hL k.c) (oa r 10) (nb r 10) (hL k.p) (by simp only [II,IJ,IK,dX,aT];omega) (by simp only [II,IJ,IK,dX];omega) w (Kb.xB (hG.kn (g:=nb r 11) (o:=(qy169 (([ob 0,ob (mV k.d)]:LU)++fZ k.i 4) k.n r k.c r1 k.p)) 91)) (show Fs w0 w (oa r 6) (nb r 6) ((([ob 0,ob (mV k.d)]:LU)++fZ k.i 4)++fZ k.n 4) from (hG.facts 6 rfl).now).1 (Bs.of_key (hG.kn (g:=nb r1 0) (o:=(cL (kY k) 56)) 0)) (show Fs w0 w (oa r 10) (nb r 10) (hL k.p) from (hG.facts 10 rfl).now).1))<|jX 1) (fun r7 _=>aG (mD [(2,(gW ((((([ob 0,ob (mV k.d)]:LU)++fZ k.i 4)++fZ k.n 4)++(hL k.c))++(hL k.p)) (oa r7 12) (nb r7 12)))] [] ?_))))
 exact mR (v:=(gW ((((([ob 0,ob (mV k.d)]:LU)++fZ k.i 4)++fZ k.n 4)++(hL k.c))++(hL k.p)) (oa r7 12) (nb r7 12))) (fun _ hS=>⟨oa r7 12,nb r7 12,congrArg IL (by rw [<- en_0 (dI b1)]),hS.dM,rC (en_0 (dI b1)) hS.facts.now.2.2.2.1⟩)
theorem rkdecode_any (a:OA) (c:Nat) (B:LU) (w0:JB) (hf0:Bs w0 a c B):Calls prog 85 #[aW a B.length c] w0 (jR (.tuple #[bW (kY (iP B)),vi (Ba B)]) w0):=by
 refine Calls.cW 85 (fun w=>Bs w a c B/\True) func85 rfl rfl rfl (hf0.dW.and iD) ?_
 have hBl:B.length<=140737488351232:=hf0.max
 refine sS f85 2 [0,2,3] [] (fun r=>[bG r 0,vi 0]) (fun r=>[(0,(fB r 0 zF 56))]) (jX 2) (fun r1=>aC (jJ f85 3 [0,2,3,13] [aW a B.length c,vn B.length,.bool ((B.length:Int) != 74)] (oC ((B.length:Int) != 74) (fun h1=>?_) (fun h1=>?_))))
 ·rw [h1]
  refine aY f85 3 [0,2,3] [] [.agg zF,Jz,vi 8] (Ij r1) (jE nS) (aG (aB ?_))
  exact mR (v:=(FQ 8)) (fun _ hS=>⟨by rw [(dc_8 (len74n h1)).1,(dc_8 (len74n h1)).2];rfl,hS.dM⟩)
 rw [h1]
 refine aI (aA (aC ?_))
 rcases jO (decide (1<(gB B 0:Int))) with h2 | h2
 ·refine aY f85 10 [0,2,3,24] [] [aW a B.length c,pX (zM a 0),vy (gB B 0),vT,vT,Jz,Jz,Jz,Jz,vT] [] (jY 1<|nM (fun hG=>nO (k:=.i64) underlying35 uT hG.fn.1 rfl (show 0=((0:Nat):Int) from rfl) (show 0<B.length from (oA (mX h1))))<|nM (fun hG=>pU isAgg5 hG.fn.1 (show 0<B.length from (oA (mX h1))))<|eU vT (jP h2)<|jX 6) (oY (aY f85 3 [0,2,3] [] [.agg zF,Jz,vi 5] (Ij r1) (jE nS) (aG (aB ?_))))
  exact mR (v:=(FQ 5)) (fun _ hS=>⟨by rw [(dc_5 (mX h1) (Jh (oA (yT h2)))).1,(dc_5 (mX h1) (Jh (oA (yT h2)))).2];rfl,hS.dM⟩)
 refine aY f85 10 [0,2,3,24] [] (let qa:JA:=.bool (decide (8<(gB B 1:Int)));[aW a B.length c,pX (zM a 0),vy (gB B 0),vF,vF,aW a B.length c,pX (zM a 1),vy (gB B 1),qa,qa]) [] (jY 1<|nM (fun hG=>nO (k:=.i64) underlying35 uT hG.fn.1 rfl (show 0=((0:Nat):Int) from rfl) (show 0<B.length from (oA (mX h1))))<|nM (fun hG=>pU isAgg5 hG.fn.1 (show 0<B.length from (oA (mX h1))))<|eU vF (jP h2)<|jY 2<|nM (fun hG=>nO (k:=.i64) underlying35 uT hG.fn.1 rfl (show 1=((1:Nat):Int) from rfl) (show 1<B.length from (oA (mX h1))))<|nM (fun hG=>pU isAgg5 hG.fn.1 (show 1<B.length from (oA (mX h1))))<|jX 2) (oC (decide (8<(gB B 1:Int))) (fun h3=>?_) (fun h3=>?_))
 ·rw [h3]
  refine aY f85 3 [0,2,3] [] [.agg zF,Jz,vi 5] (Ij r1) (jE nS) (aG (aB ?_))
  exact mR (v:=(FQ 5)) (fun _ hS=>⟨by rw [(dc_5 (mX h1) (Jb (oA (yT h3)))).1,(dc_5 (mX h1) (Jb (oA (yT h3)))).2];rfl,hS.dM⟩)
 rw [h3]
 have:=yF h3
 have zh1:1<B.length:=(oA (mX h1))
 have zh2:0<B.length:=(oA (mX h1))
 refine aI (aA (sS f85 7 [0,2,3,4] [] (fun r=>[aW a B.length c,pX (zM a 1),vy (gB B 1),vn (gB B 1),bW (qy209 B),bG r 5,Jz]) (fun r=>[(5,(fB r 5 zF 56)),(6,(jD 41 r 5 (qy209 B) 56))]) (jY 1<|nM (fun hG=>nO (k:=.i64) underlying35 uT hG.fn.1 rfl (show 1=((1:Nat):Int) from rfl) zh1)<|nM (fun hG=>pU isAgg5 hG.fn.1 zh1)<|DV (gB B 1:Int) (gB B 1) (pY (oB (yF h2) (gV B 1)))<|jE [[],[],[41]]) (fun r8=>aY f85 8 [0,2,3,4] [] [aW a B.length c,Iu B 2 4 B.length,Iu B 2 4 B.length,vu (yQ B 2 4),vi (Gq B.length 2 4),rH B.length 2 4,bH r8 5 41,Jz] [(7,(jD 1 r8 5 (kC 0 0 0 (gB B 1:Int) ((yQ B 2 4:Nat):Int) 0) 56))] (jY 1<|zW (fun hG=>ru32_any a c B 2 dC hBl _ hG.fn.1)<|jE [[],[],[],[],[],[1]]) (aY f85 8 [0,2,3,4] [] [aW a B.length c,Iu B 6 4 B.length,Iu B 6 4 B.length,vu (yQ B 6 4),vi (Gq B.length 6 4),rH B.length 6 4,bH r8 5 42,Jz] [(7,(jD 1 r8 5 (kC 0 0 0 (gB B 1:Int) ((yQ B 2 4:Nat):Int) ((yQ B 6 4:Nat):Int)) 56))] (jY 1<|zW (fun hG=>ru32_any a c B 6 dC hBl _ hG.fn.1)<|jE [[],[],[],[],[],[1]]) (aY f85 8 [0,2,3,4] [] (let qa:=vi (Gq B.length 10 32);let qb:=vi (DX B.length 10 32);[aW a B.length c,qy176 B 10 qa qb,qy176 B 10 qa qb,oG (nU B 10),qa,qb,bH r8 5 8,Jz]) [(7,(jD 1 r8 5 (qy98 B) 56))] (jY 1<|zW (fun hG=>rhash_any a c B 10 dC hBl _ hG.fn.1)<|jE [[],[],[],[],[],[1]]) (sS f85 10 [0,2,3,4,5] [] (fun r=>let qa:=vi (Gq B.length 42 32);let qb:=vi (DX B.length 42 32);[aW a B.length c,qy176 B 42 qa qb,qy176 B 42 qa qb,oG (nU B 42),qa,qb,bG r 6,Jz,qa,qb]) (fun r=>[(6,(fB r 6 (hB 0) 47)),(7,(jD 50 r 6 (hB (nU B 42)) 47))]) (jY 1<|zW (fun hG=>rhash_any a c B 42 dC hBl _ hG.fn.1)<|jE [[],[],[],[],[],[50],[],[]]) (fun _=>sS f85 4 [0,2,3,4,8] [1,1,0,1] (fun r=>[oG (nU B 42),U (nU B 42),bG r 2,Jz]) (fun r=>[(2,(fB r 2 (cU 0) 54)),(3,(jD 19 r 2 (cU (nU B 42)) 54))]) (cR [[2]]<|oO (rfrombytes_any (nU B 42))<|jE [[],[19]]) (fun r13=>aC (aY f85 4 [2,3,4,8,63] [] [aW a B.length c,pX (zM a 0),vy (gB B 0),.bool ((gB B 0:Int)==0)] [] (jY 1<|nM (fun hG=>nO (k:=.i64) underlying35 uT hG.fn.1 rfl (show 0=((0:Nat):Int) from rfl) zh2)<|nM (fun hG=>pU isAgg5 hG.fn.1 zh2)<|jX 1) (oC ((gB B 0:Int)==0) (fun h4=>?_) (fun h4=>?_)))))))))))
 ·rw [h4]
  refine aC (aY f85 3 [2,3,4,8,66] [] [U (nU B 42),.bool (wH (nU B 42)),.bool (!(wH (nU B 42)))] [] (cR [[2]]<|oO (rvalid_any (nU B 42) GI)<|jX 1) (oC (!(wH (nU B 42))) (fun h5=>?_) (fun h5=>?_)))
  ·rw [h5]
   refine aY f85 3 [2,3,4,8] [] [.agg zF,Jz,vi 60] (Ij r1) (jE nS) (aG (aB (aB ?_)))
   exact mR (v:=(FQ 60)) (fun _ hS=>⟨by rw [(dc_v0 (mX h1) (oA (yF h2)) (b01 h4) (kP h5)).1,(dc_v0 (mX h1) (oA (yF h2)) (b01 h4) (kP h5)).2]<;>rfl,hS.dM⟩)
  rw [h5]
  refine aI (aA (aY f85 3 [2,3,4,8] [] [U (nU B 42),bH r8 5 4,Jz] [(2,(jD 1 r8 5 (qy31 B) 56))] (jE [[2],[],[1]]) (uF [(2,(bG r1 0)),(3,(vi 0)),(4,(bG r8 5)),(8,(bG r13 2))] [(nb r1 0,(cL zF 56)),(nb r8 5,(cL (qy31 B) 56)),(nb r13 2,(yY (nU B 42)))] (aY f85 3 [2,3,4,8] [] [bW (qy31 B),Jz,vi 0] [(1,(mF 0 r1 (qy31 B) 56))] (jE [[1],[0],[]]) (aG (aB ?_))))))
  exact mR (v:=(.tuple #[bW (qy31 B),vi 0])) (fun _ hS=>⟨by rw [(dc_v1 (mX h1) (oA (yF h2)) (b01 h4) (dI h5)).1,(dc_v1 (mX h1) (oA (yF h2)) (b01 h4) (dI h5)).2]<;>rfl,hS.dM⟩)
 rw [h4]
 refine aI (aA (sS f85 8 [2,3,4,8,9,10] [] (fun r=>[U (nU B 42),qy65 (nU B 42),qy65 (nU B 42),U (oW (nU B 42)),Ir B,bG r 5,Jz,Ir B]) (fun r=>[(5,(fB r 5 (cU 0) 54)),(6,(jD 43 r 5 (cU (oW (nU B 42))) 54))]) (cR [[2]]<|oO (Ey (nU B 42) GI)<|jE [[],[],[],[],[43],[]]) (fun r19=>aC (jJ f85 2 [2,3,4,8,9,10,77] [Ir B,.bool ((sQ (nU B 42)) != 0)] (uF [(2,(bG r1 0)),(3,(vi 0)),(4,(bG r8 5)),(8,(bG r13 2)),(9,(bG r19 5)),(10,(Ir B)),(77,(.bool ((sQ (nU B 42)) != 0)))] [(nb r1 0,(cL zF 56)),(nb r8 5,(cL (qy98 B) 56)),(nb r13 2,(yY (nU B 42))),(nb r19 5,(yY (oW (nU B 42))))] (oC ((sQ (nU B 42)) != 0) (fun h6=>?_) (fun h6=>?_)))))))
 ·rw [h6]
  refine aY f85 4 [2,3,4,8,9] [] [.agg zF,Ir B,Jz,Ir B] [(2,(mF 0 r1 zF 56))] (jE [[],[],[0],[]]) (aG (aB ?_))
  exact mR (v:=(FQ (sQ (nU B 42)))) (fun _ hS=>⟨by rw [(dc_s0 (mX h1) (oA (yF h2)) (b00 h4) (G9 h6)).1,(dc_s0 (mX h1) (oA (yF h2)) (b00 h4) (G9 h6)).2.2];rfl,hS.dM⟩)
 rw [h6]
 refine aI (aA (Au f85 [0,0,1,5,15,31] 6 [2,3,4] [1,1,0,0] [U (nU B 42),U (oW (nU B 42)),bG r8 5,Jz,bH r8 5 4,Jz] [(3,(jD 1 r8 5 (qy187 B) 56)),(5,(jD 1 r8 5 (qy32 B) 56))] (jE [[2],[3],[],[1],[],[1]]) (aY f85 3 [2,3] [1,0] [bW (qy32 B),Jz,vi 0] [(1,(mF 0 r1 (qy32 B) 56))] (jE [[1],[0],[]]) (aG ?_))))
 exact mR (v:=(.tuple #[bW (qy32 B),vi 0])) (fun _ hS=>⟨by rw [(dc_s1 (mX h1) (oA (yF h2)) (b00 h4) (bQ h6)).1,(dc_s1 (mX h1) (oA (yF h2)) (b00 h4) (bQ h6)).2]<;>rfl,hS.dM⟩)
theorem rW (z:Int) (w0:JB):Calls prog 19 #[vi z] w0 (jR (vi (lU z)) w0):=by
 refine Calls.cW 13 (fun _=>True) func19 rfl rfl rfl jT (jJ f19 1 [0,2] [vi 0] (aC (jJ f19 1 [2,3] [vi z] (aJ (aC (jJ f19 2 [2,3,4] [.bool (z==1),.bool (z==1)] (oC (z==1) (fun b1=>?_) (fun b1=>?_))))))))
 ·rw [b1]
  refine aI (aA (oY (jJ f19 1 [2] [vi 0] (aG (aQ (aB ?_))))))
  exact mR (v:=(vi 0)) (fun _ hS=>⟨congrArg (fun x=>IL (vi x)) (kd_1 (oA (F6 b1))),hS.dM⟩)
 rw [b1]
 refine jL f19 2 [2,3,4] [] [.bool (z==2),.bool (z==2)] [[],[]] (aA (oC (z==2) (fun b2=>?_) (fun b2=>?_)))
 ·rw [b2]
  refine jJ f19 1 [2] [vi 0] (aG (aQ (aB ?_)))
  exact mR (v:=(vi 0)) (fun _ hS=>⟨congrArg (fun x=>IL (vi x)) (kd_1 (oB (rJ b1) (F6 b2))),hS.dM⟩)
 rw [b2]
 refine aC (jJ f19 2 [2,3,7] [.bool (z==3),.bool (z==3)] (oC (z==3) (fun b3=>?_) (fun b3=>?_)))
 ·rw [b3]
  refine aI (aA (oY (jJ f19 1 [2] [vi 1] (aG (aQ (aB ?_))))))
  exact mR (v:=(vi 1)) (fun _ hS=>⟨congrArg (fun x=>IL (vi x)) (kd_3 (by have:=rJ b1;have:=rJ b2;have:=F6 b3;omega)),hS.dM⟩)
 rw [b3]
 refine jJ f19 2 [2,3,7] [.bool (z==4),.bool (z==4)] (oC (z==4) (fun b4=>?_) (fun b4=>?_))
 ·rw [b4]
  refine aI (aA (oY (jJ f19 1 [2] [vi 1] (aG (aQ (aB ?_))))))
  exact mR (v:=(vi 1)) (fun _ hS=>⟨congrArg (fun x=>IL (vi x)) (kd_3 (by have:=rJ b1;have:=rJ b2;have:=rJ b3;have:=F6 b4;omega)),hS.dM⟩)
 rw [b4]
 refine jL f19 2 [2,3,7] [] [.bool (z==5),.bool (z==5)] [[],[]] (aA (oC (z==5) (fun b5=>?_) (fun b5=>?_)))
 ·rw [b5]
  refine jJ f19 1 [2] [vi 1] (aG (aQ (aB ?_)))
  exact mR (v:=(vi 1)) (fun _ hS=>⟨congrArg (fun x=>IL (vi x)) (kd_3 (by have:=rJ b1;have:=rJ b2;have:=rJ b3;have:=rJ b4;have:=F6 b5;omega)),hS.dM⟩)
 rw [b5]
 refine jJ f19 2 [2,11] [.bool (z==6),.bool (z==6)] (oC (z==6) (fun b6=>?_) (fun b6=>?_))
 ·rw [b6]
  refine jJ f19 1 [2] [vi 2] (aG (aQ (aB ?_)))
  exact mR (v:=(vi 2)) (fun _ hS=>⟨congrArg (fun x=>IL (vi x)) (kd_6 (by have:=rJ b1;have:=rJ b2;have:=rJ b3;have:=rJ b4;have:=rJ b5;have:=F6 b6;omega)),hS.dM⟩)
 rw [b6]
 refine aI (aH (aA (jJ f19 1 [2] [vi (-1)] (aG ?_))))
 exact mR (v:=(vi (-1))) (fun _ hS=>⟨congrArg (fun x=>IL (vi x)) (kd_0 (by have:=rJ b1;have:=rJ b2;have:=rJ b3;have:=rJ b4;have:=rJ b5;have:=rJ b6;omega)),hS.dM⟩)
theorem rdkids_any (z:Int) (w0:JB):Calls prog 62 #[vi z] w0 (jR (vi (lU z)) w0):=by
 refine Calls.cW 13 (fun _=>True) func62 rfl rfl rfl jT (jJ f62 1 [0,2] [vi 0] (aC (jJ f62 1 [2,3] [vi z] (aJ (aC (jJ f62 2 [2,3,4] [.bool (z==1),.bool (z==1)] (oC (z==1) (fun b1=>?_) (fun b1=>?_))))))))
 ·rw [b1]
  refine aI (aA (oY (jJ f62 1 [2] [vi 0] (aG (aQ (aB ?_))))))
  exact mR (v:=(vi 0)) (fun _ hS=>⟨congrArg (fun x=>IL (vi x)) (kd_1 (oA (F6 b1))),hS.dM⟩)
 rw [b1]
 refine jL f62 2 [2,3,4] [] [.bool (z==2),.bool (z==2)] [[],[]] (aA (oC (z==2) (fun b2=>?_) (fun b2=>?_)))
 ·rw [b2]
  refine jJ f62 1 [2] [vi 0] (aG (aQ (aB ?_)))
  exact mR (v:=(vi 0)) (fun _ hS=>⟨congrArg (fun x=>IL (vi x)) (kd_1 (oB (rJ b1) (F6 b2))),hS.dM⟩)
 rw [b2]
 refine aC (jJ f62 2 [2,3,7] [.bool (z==3),.bool (z==3)] (oC (z==3) (fun b3=>?_) (fun b3=>?_)))
 ·rw [b3]
  refine aI (aA (oY (jJ f62 1 [2] [vi 1] (aG (aQ (aB ?_))))))
  exact mR (v:=(vi 1)) (fun _ hS=>⟨congrArg (fun x=>IL (vi x)) (kd_3 (by have:=rJ b1;have:=rJ b2;have:=F6 b3;omega)),hS.dM⟩)
 rw [b3]
 refine jJ f62 2 [2,3,7] [.bool (z==4),.bool (z==4)] (oC (z==4) (fun b4=>?_) (fun b4=>?_))
 ·rw [b4]
  refine aI (aA (oY (jJ f62 1 [2] [vi 1] (aG (aQ (aB ?_))))))
  exact mR (v:=(vi 1)) (fun _ hS=>⟨congrArg (fun x=>IL (vi x)) (kd_3 (by have:=rJ b1;have:=rJ b2;have:=rJ b3;have:=F6 b4;omega)),hS.dM⟩)
 rw [b4]
 refine jL f62 2 [2,3,7] [] [.bool (z==5),.bool (z==5)] [[],[]] (aA (oC (z==5) (fun b5=>?_) (fun b5=>?_)))
 ·rw [b5]
  refine jJ f62 1 [2] [vi 1] (aG (aQ (aB ?_)))
  exact mR (v:=(vi 1)) (fun _ hS=>⟨congrArg (fun x=>IL (vi x)) (kd_3 (by have:=rJ b1;have:=rJ b2;have:=rJ b3;have:=rJ b4;have:=F6 b5;omega)),hS.dM⟩)
 rw [b5]
 refine jJ f62 2 [2,11] [.bool (z==6),.bool (z==6)] (oC (z==6) (fun b6=>?_) (fun b6=>?_))
 ·rw [b6]
  refine jJ f62 1 [2] [vi 2] (aG (aQ (aB ?_)))
  exact mR (v:=(vi 2)) (fun _ hS=>⟨congrArg (fun x=>IL (vi x)) (kd_6 (by have:=rJ b1;have:=rJ b2;have:=rJ b3;have:=rJ b4;have:=rJ b5;have:=F6 b6;omega)),hS.dM⟩)
 rw [b6]
 refine aI (aH (aA (jJ f62 1 [2] [vi (-1)] (aG ?_))))
 exact mR (v:=(vi (-1))) (fun _ hS=>⟨congrArg (fun x=>IL (vi x)) (kd_0 (by have:=rJ b1;have:=rJ b2;have:=rJ b3;have:=rJ b4;have:=rJ b5;have:=rJ b6;omega)),hS.dM⟩)
abbrev qy68:=kJ 0 0 0 0 vz
abbrev BB:=fun p0=>(.agg (aX.row p0):JA)
abbrev BH:=fun p0 p1 p2 p3 p4 p5=>[(p0,(fB p1 p0 qy68 p2)),(p3,(jD p4 p1 p0 p5 p2))]
theorem dwhole_any (a:OA) (c:Nat) (ts:List aX) (w0:JB) (hf0:iF w0 a c ts):Calls prog 38 #[aW a ts.length c] w0 (jR (.bool (zC 1 ts)) w0):=by
 refine Calls.cW 29 (fun w=>iF w a c ts/\True) func38 rfl rfl rfl (hf0.dW.and iD) ?_
 have hlen:ts.length<=1000000:=hf0.max
 have ho:qZ ts:=hf0.oks
 refine jJ f38 1 [0,2] [vF] (jJ f38 1 [0,2,3] [vi 1] (aC (jJ f38 3 [2,3,7,8,9] [aW a ts.length c,vn ts.length,vi 0] (aJ ?_))))
 refine oL (σ:=Nat × Int) (fun ⟨i,m⟩=>[(3,(vi m)),(7,(aW a ts.length c)),(8,(vn ts.length)),(9,(vn i))]) (fun ⟨_,_⟩=>[]) (fun ⟨i,_⟩=>ts.length-i)
  (fun ⟨i,m⟩=>(i<=ts.length)/\(0<=m/\m<=1+(i:Int))/\(zC m (ts.drop i)=zC 1 ts)) (0,1) (⟨IU _,by decide,rfl⟩) [] ?_
 rintro ⟨i,m⟩ ⟨hi,hm,hr⟩
 refine jJ f38 1 [3,7,8,9,10] [.bool (decide ((i:Int)<(ts.length:Int)))] (aC (oC (decide ((i:Int)<(ts.length:Int))) (fun b1=>?_) (fun b1=>?_)))
 ·rw [b1]
  have:=yT b1
  have zh1:i<ts.length:=om
  refine aI (aA (aC (aJ (sS f38 4 [3,5,7,8,9] [] (fun r=>[tY a (i*36),BB (gT ts i),bG r 2,Jz]) (fun r=>(BH 2 r 50 3 16 (aX.row (gT ts i)))) (nM (fun hG=>iF.idx (k:=.i64) underlying24 sizeOf50 hG.fn.1 rfl (show (i:Int)=(i:Int) from rfl) zh1)<|nM (fun hG=>iF.ldA (i:=i) isAgg50 sizeOf50 hG.fn.1 zh1)<|jE [[],[16]]) (fun r5=>aY f38 4 [3,6,7,8,9] [0] [bG r5 2,vi (gT ts i).kd,vi (lU (gT ts i).kd),vi (lU (gT ts i).kd)] [] (cR [[],[0]]<|oO (rW (gT ts i).kd)<|jX 1) (aC ?_))))))
  rcases jO (m==0) with b2 | b2
  ·refine aY f38 6 [3,6,7,8,9,21] [] [vi m,vT,vT,Jz,Jz,vT] [] (jY 1<|eU vT (jP b2)<|jX 4) (oY (jJ f38 1 [2,3,6,7,8,9] [vF] (aG (aB (aQ (aB (aB (aQ (aB ?_)))))))))
   exact mR (v:=vF) (fun _ hS=>⟨jB (wh_stop om (Jh (F6 b2)) hr).symm,hS.dM⟩)
  refine aY f38 6 [3,6,7,8,9,21] [] (let qa:JA:=.bool (decide ((lU (gT ts i).kd)<0));[vi m,vF,vF,vi (lU (gT ts i).kd),qa,qa]) [] (jY 1<|eU vF (jP b2)<|jX 4) (oC (decide ((lU (gT ts i).kd)<0)) (fun b3=>?_) (fun b3=>?_))
  ·rw [b3]
   refine jJ f38 1 [2,3,6,7,8,9] [vF] (aG (aB (aQ (aB (aB (aQ (aB ?_)))))))
   exact mR (v:=vF) (fun _ hS=>⟨jB (wh_stop (oA (yT b3)) (Jb (yT b3)) hr).symm,hS.dM⟩)
  rw [b3]
  have:=yF b3
  refine aI (aA (lV f38 5 [3,7,8,9] [] (let qa:=vi (m+(lU (gT ts i).kd-1));[vi m,vi (lU (gT ts i).kd),vi (lU (gT ts i).kd-1),qa,qa]) [] (jY 2<|jUc ((lU (gT ts i).kd)-1) (lU (gT ts i).kd-1) (pY (oA (Df (gT ts i).kd)))<|FC (m+(lU (gT ts i).kd-1)) (oA (Df (gT ts i).kd))<|jX 1) (aH (aA (lV f38 2 [3,7,8,9] [] [vn (i+1),vn (i+1)] [] (oD (bF i 1 om)<|jX 1) (?_))))))
  exact mN (i+1,m+(lU (gT ts i).kd-1)) (by show ts.length-(i+1)<ts.length-i;omega) (⟨om,by have:=Df (gT ts i).kd;have:=rJ b2;omega,wh_next om (rJ b2) (yF b3) hr⟩) []
 rw [b1]
 refine bC (aF (aF (aO (aA (jJ f38 3 [2] [vi m,.bool (m==0),.bool (m==0)] (aG ?_))))))
 exact mR (v:=(.bool (m==0))) (fun _ hS=>⟨jB ((beq_dec m).trans (wh_end (oA (yF b1)) hr)),hS.dM⟩)
theorem rdshaped_any (a:OA) (c:Nat) (ts:List aX) (w0:JB) (hf0:iF w0 a c ts):Calls prog 33 #[aW a ts.length c] w0 (jR (.bool (shB ts)) w0):=by
 refine Calls.cW 40 (fun w=>iF w a c ts/\True) func33 rfl rfl rfl (hf0.dW.and iD) ?_
 have hlen:ts.length<=1000000:=hf0.max
 have ho:qZ ts:=hf0.oks
 refine jJ f33 1 [0,2] [vF] (jJ f33 1 [0,2,3] [vi 1] (aC (jJ f33 1 [0,2,3,4] [vi 0] (aJ ?_))))
 refine oL (σ:=Nat × Int) (fun ⟨i,m⟩=>[(0,(aW a ts.length c)),(3,(vi m)),(4,(vn i))]) (fun ⟨_,_⟩=>[]) (fun ⟨i,_⟩=>ts.length-i)
  (fun ⟨i,m⟩=>(i<=ts.length)/\(0<=m/\m<=1+(i:Int))/\(zC m (ts.drop i)=zC 1 ts)) (0,1) (⟨IU _,by decide,rfl⟩) [] ?_
 rintro ⟨i,m⟩ ⟨hi,hm,hr⟩
 refine aC (jJ f33 4 [0,3,4,9] [vn i,aW a ts.length c,vn ts.length,.bool (decide ((i:Int)<(ts.length:Int)))] (oC (decide ((i:Int)<(ts.length:Int))) (fun b1=>?_) (fun b1=>?_)))
 ·rw [b1]
  have:=yT b1
  refine aI (aA (aC (aJ (aY f33 7 [0,3,4,5] [] (let qa:JA:=.pointer (zM a (i*36));[aW a ts.length c,vn i,qa,qa,vi (gT ts i).kd,vi (lU (gT ts i).kd),vi (lU (gT ts i).kd)]) [] (jY 2<|nM (fun hG=>iF.idx (k:=.i64) underlying24 sizeOf50 hG.fn.1 rfl (show (i:Int)=(i:Int) from rfl) (show i<ts.length from om))<|cX (jF (fun _=>Jp 50 (tY a (i*36)) 0) (fun _=>(tY a (i*36))) (fun _ _ _ hG=>fld_rs (o:=0) (k:=i*36) underlying50 rfl rfl rfl sizeOf3 (hG.fn.1.pos (show i<ts.length from om)).1 (hG.fn.1.pos (show i<ts.length from om)).2) (fun _ _ _ _=>iD))<|nM (fun hG=>iF.ld (v:=(vi (gT ts i).kd)) (i:=i) (j:=0) isAgg3 hG.fn.1 (show i<ts.length from om) dC kr)<|oO (rdkids_any (gT ts i).kd)<|jX 1) (aC ?_)))))
  rcases jO (decide ((lU (gT ts i).kd)<0)) with b2 | b2
  ·refine aY f33 6 [0,3,4,5,23] [] [vi (lU (gT ts i).kd),vT,vT,Jz,Jz,vT] [] (jY 1<|eU vT (jP b2)<|jX 4) (oY (jJ f33 1 [0,2,3,4,5] [vF] (aG (aB (aQ (aB (aB (aQ (aB ?_)))))))))
   exact mR (v:=vF) (fun _ hS=>⟨jB (show false=shB ts by unfold shB;rw [wh_stop (oA (yT b2)) (Jb (yT b2)) hr];rfl),hS.dM⟩)
  refine aY f33 6 [0,3,4,5,23] [] [vi (lU (gT ts i).kd),vF,vF,vi m,.bool (m==0),.bool (m==0)] [] (jY 1<|eU vF (jP b2)<|jX 4) (oC (m==0) (fun b3=>?_) (fun b3=>?_))
  ·rw [b3]
   refine jJ f33 1 [0,2,3,4,5] [vF] (aG (aB (aQ (aB (aB (aQ (aB ?_)))))))
   exact mR (v:=vF) (fun _ hS=>⟨jB (show false=shB ts by unfold shB;rw [wh_stop (oA (yF b2)) (Jh (F6 b3)) hr];rfl),hS.dM⟩)
  rw [b3]
  refine aI (aA (lV f33 5 [0,3,4] [] (let qa:=vi (m+(lU (gT ts i).kd-1));[vi m,vi (m-1),vi (lU (gT ts i).kd),qa,qa]) [] (jY 1<|FC (m-1) om<|jY 1<|jUc ((m-1)+(lU (gT ts i).kd)) (m+(lU (gT ts i).kd-1)) ((pY (oA (Df (gT ts i).kd))).trans om)<|jX 1) (aH (aA (lV f33 3 [0,3,4] [] [vn i,vn (i+1),vn (i+1)] [] (jY 1<|oD (bF i 1 (oA (yF b2)))<|jX 1) (?_))))))
  exact mN (i+1,m+(lU (gT ts i).kd-1)) (by show ts.length-(i+1)<ts.length-i;have:=yF b2;omega) (⟨(oA (yF b2)),by have:=Df (gT ts i).kd;have:=rJ b3;have:=yF b2;omega,wh_next (oA (yF b2)) (rJ b3) (yF b2) hr⟩) []
 rw [b1]
 have:=yF b1
 refine bC (aF (aF (aO (aA ?_))))
 rcases jO (m==0) with b4 | b4
 ·rcases jO (decide (1<=(ts.length:Int))) with b5 | b5
  ·refine aY f33 13 [2] [] (let qa:JA:=.bool (decide ((ts.length:Int)<=8));[vi m,vT,vT,aW a ts.length c,vn ts.length,vT,vT,vT,aW a ts.length c,vn ts.length,qa,qa,qa]) [] (jY 1<|eU vT (jP b4)<|jY 3<|eU vT (jP b5)<|jX 7) (aG ?_)
   exact mR (v:=(.bool (decide ((ts.length:Int)<=8)))) (fun _ hS=>⟨jB (sh_2 (wh_end (oA (yT b5)) hr) b4 b5),hS.dM⟩)
  refine aY f33 13 [2] [] [vi m,vT,vT,aW a ts.length c,vn ts.length,vF,vF,vF,Jz,Jz,Jz,vF,vF] [] (jY 1<|eU vT (jP b4)<|jY 3<|eU vF (jP b5)<|jX 7) (aG ?_)
  exact mR (v:=vF) (fun _ hS=>⟨jB (sh_1 (wh_end (oA (yF b5)) hr) b4 b5),hS.dM⟩)
 refine aY f33 13 [2] [] [vi m,vF,vF,Jz,Jz,Jz,vF,vF,Jz,Jz,Jz,vF,vF] [] (jY 1<|eU vF (jP b4)<|jX 11) (aG ?_)
 exact mR (v:=vF) (fun _ hS=>⟨jB (sh_0 (wh_end om hr) b4),hS.dM⟩)
abbrev bM:=fun p0=>cL p0 50
theorem dfields_any (kd : Int) (m : Int) (nu : Nat) (h : Nat) (ka : OA) (kc : Nat) (ks : List dB) (hh : h < M) (w0 : JB) : Calls prog 39 #[bW (kJ kd m ((nu : Nat) : Int) h (aW ka ks.length kc))] w0 (jR (.bool (fdN kd m nu h ks.length)) w0) := by
 refine Calls.cW 70 (fun _=>True) func39 rfl rfl rfl jT (sS f39 2 [1,2] [] (fun r=>[bG r 0,vF]) (fun r=>(pO 0 r (kJ kd m (nu:Int) h (aW ka ks.length kc)) 50)) (jX 2) (fun r1=>Bd (σ:=Unit) (fun _=>[(1,(bG r1 0))]) (fun _=>[(nb r1 0,(bM (kJ kd m (nu:Int) h (aW ka ks.length kc))))]) (fun _=>(fun _=>True)) (fun _=>(kd=2\/m=0)) ?_ ?_))
 ·rintro _u hj1
  refine Bd (σ:=Unit) (fun _=>[(1,(bG r1 0))]) (fun _=>[(nb r1 0,(bM (kJ kd m (nu:Int) h (aW ka ks.length kc))))]) (fun _=>(fun _=>True)) (fun _=>(kd=3\/kd=4\/nu=0)) ?_ ?_
  ·rintro _u hj2
   refine Bd (σ:=Unit) (fun _=>[(1,(bG r1 0))]) (fun _=>[(nb r1 0,(bM (kJ kd m (nu:Int) h (aW ka ks.length kc))))]) (fun _=>(fun _=>True)) (fun _=>(kd=5\/h=0)) ?_ ?_
   ·rintro _u hj3
    refine aC (jM f39 2 [1,34] [] [bG r1 0,vi kd] [[],[0]] (aJ (jJ f39 2 [1,34,35] [.bool (kd==1),.bool (kd==1)] (oC (kd==1) (fun t1=>?_) (fun t1=>?_)))))
    ·rw [t1]
     refine jM f39 5 [1,2] [] (let qa:JA:=.bool ((ks.length:Int)==1);[bH r1 0 35,aW ka ks.length kc,vn ks.length,qa,qa]) [[],[0],[],[],[]] (aG (aQ (aB ?_)))
     exact mR (v:=(.bool ((ks.length:Int)==1))) (fun _ hS=>⟨jB (fd_b (by have:=F6 t1;have:=hj1;have:=hj2;have:=hj3;unfold DY;omega)),hS.dM⟩)
    rw [t1]
    refine jJ f39 2 [1,41] [.bool (kd==2),.bool (kd==2)] (oC (kd==2) (fun t2=>?_) (fun t2=>?_))
    ·rw [t2]
     rcases jO (decide (1<=(ks.length:Int))) with t3 | t3
     ·rcases jO (decide ((ks.length:Int)<=15)) with t4 | t4
      ·rcases jO (decide (1<=m)) with t5 | t5
       ·refine aY f39 24 [1,2] [] (let qa:JA:=.bool (decide (m<=(ks.length:Int)));let qb:JA:=.slice ka ks.length kc;[bH r1 0 35,qb,vn ks.length,vT,vT,bH r1 0 35,qb,vn ks.length,vT,vT,vT,bH r1 0 1,vi m,vT,vT,vT,bH r1 0 1,vi m,bH r1 0 35,qb,vn ks.length,qa,qa,qa]) [] (cR nS<|eU vT (jP t3)<|cR [[],[],[0],[]]<|eU vT (jP t4)<|cR x8<|eU vT (jP t5)<|jE [[],[],[],[0],[],[0],[],[],[],[]]) (aG (aQ (aB ?_)))
        exact mR (v:=(.bool (decide (m<=(ks.length:Int))))) (fun _ hS=>⟨jB (fd_d (by have:=rJ t1;have:=F6 t2;have:=yT t3;have:=yT t4;have:=yT t5;have:=hj1;have:=hj2;have:=hj3;unfold DY;omega)),hS.dM⟩)
       refine aY f39 24 [1,2] [] [bH r1 0 35,aW ka ks.length kc,vn ks.length,vT,vT,bH r1 0 35,aW ka ks.length kc,vn ks.length,vT,vT,vT,bH r1 0 1,vi m,vF,vF,vF,Jz,Jz,Jz,Jz,Jz,Jz,vF,vF] [] (cR nS<|eU vT (jP t3)<|cR [[],[],[0],[]]<|eU vT (jP t4)<|cR x8<|eU vF (jP t5)<|jX 10) (aG (aQ (aB ?_)))
       exact mR (v:=vF) (fun _ hS=>⟨jB (GG (by have:=rJ t1;have:=F6 t2;have:=yT t3;have:=yT t4;have:=yF t5;have:=hj1;have:=hj2;have:=hj3;unfold DY;omega)),hS.dM⟩)
      refine aY f39 24 [1,2] [] [bH r1 0 35,aW ka ks.length kc,vn ks.length,vT,vT,bH r1 0 35,aW ka ks.length kc,vn ks.length,vF,vF,vF,Jz,Jz,Jz,vF,vF,Jz,Jz,Jz,Jz,Jz,Jz,vF,vF] [] (cR nS<|eU vT (jP t3)<|cR [[],[],[0],[]]<|eU vF (jP t4)<|jX 15) (aG (aQ (aB ?_)))
      exact mR (v:=vF) (fun _ hS=>⟨jB (GG (by have:=rJ t1;have:=F6 t2;have:=yT t3;have:=yF t4;have:=hj1;have:=hj2;have:=hj3;unfold DY;omega)),hS.dM⟩)
     refine aY f39 24 [1,2] [] [bH r1 0 35,aW ka ks.length kc,vn ks.length,vF,vF,Jz,Jz,Jz,Jz,vF,vF,Jz,Jz,Jz,vF,vF,Jz,Jz,Jz,Jz,Jz,Jz,vF,vF] [] (cR nS<|eU vF (jP t3)<|jX 20) (aG (aQ (aB ?_)))
     exact mR (v:=vF) (fun _ hS=>⟨jB (GG (by have:=rJ t1;have:=F6 t2;have:=yF t3;have:=hj1;have:=hj2;have:=hj3;unfold DY;omega)),hS.dM⟩)
    rw [t2]
    refine aI (aH (aA (jM f39 5 [2] [0] (let qa:JA:=.bool ((ks.length:Int)==0);[bH r1 0 35,aW ka ks.length kc,vn ks.length,qa,qa]) [[],[0],[],[],[]] (aG ?_))))
    exact mR (v:=(.bool ((ks.length:Int)==0))) (fun _ hS=>⟨jB (fd_b (by have:=rJ t1;have:=rJ t2;have:=hj1;have:=hj2;have:=hj3;unfold DY;omega)),hS.dM⟩)
   intro J1
   refine aC ?_
   rcases jO (kd != 5) with t6 | t6
   ·refine aY f39 9 [1,32] [] [bG r1 0,vi kd,vT,vT,bH r1 0 3,oG h,uZ,.bool (!decide (h=0)),.bool (!decide (h=0))] [] (cR [[],[0]]<|eU vT (jP t6)<|cR [[],[],[0],[]]<|cB (a:=fun r=>(oG h)) (b:=fun r=>uZ) (v:=fun r=>(.bool (!decide (h=0)))) .neq 47 (fun _ _=>neqH h 0 hh dK _)<|jX 1) (oC (!decide (h=0)) (fun t7=>?_) (fun t7=>?_))
    ·rw [t7]
     refine jJ f39 1 [1,2] [vF] (aG (aB ?_))
     exact mR (v:=vF) (fun _ hS=>⟨jB (GG (by have:=xP t6;have:=yF (kP t7);have:=hj1;have:=hj2;unfold DY;omega)),hS.dM⟩)
    rw [t7]
    refine aI (aA ?_)
    exact CS J1 () (oB (xP t6) (yT (dI t7)))
   refine aY f39 9 [1,32] [] [bG r1 0,vi kd,vF,vF,Jz,Jz,Jz,Jz,vF] [] (cR [[],[0]]<|eU vF (jP t6)<|jX 6) (oN (aI (aA ?_)))
   exact CS J1 () (oA (sH t6))
  intro J2
  refine aC ?_
  rcases jO (kd != 3) with t8 | t8
  ·rcases jO (kd != 4) with t9 | t9
   ·refine aY f39 13 [1,23] [] (let qa:JA:=.bool ((nu:Int) != 0);[bG r1 0,vi kd,vT,vT,bG r1 0,vi kd,vT,vT,vT,bH r1 0 2,vu nu,qa,qa]) [] (cR [[],[0]]<|eU vT (jP t8)<|cR qA<|eU vT (jP t9)<|jE [[],[],[],[0],[],[]]) (oC ((nu:Int) != 0) (fun t10=>?_) (fun t10=>?_))
    ·rw [t10]
     refine jJ f39 1 [1,2] [vF] (aG (aB ?_))
     exact mR (v:=vF) (fun _ hS=>⟨jB (GG (by have:=xP t8;have:=xP t9;have:=xP t10;have:=hj1;unfold DY;omega)),hS.dM⟩)
    rw [t10]
    refine aI (aA ?_)
    exact CS J2 () (by have:=xP t8;have:=xP t9;have:=sH t10;omega)
   refine aY f39 13 [1,23] [] [bG r1 0,vi kd,vT,vT,bG r1 0,vi kd,vF,vF,vF,Jz,Jz,Jz,vF] [] (cR [[],[0]]<|eU vT (jP t8)<|cR qA<|eU vF (jP t9)<|jX 6) (oN (aI (aA ?_)))
   exact CS J2 () (oB (xP t8) (sH t9))
  refine aY f39 13 [1,23] [] [bG r1 0,vi kd,vF,vF,Jz,Jz,Jz,vF,vF,Jz,Jz,Jz,vF] [] (cR [[],[0]]<|eU vF (jP t8)<|jX 10) (oN (aI (aA ?_)))
  exact CS J2 () (oA (sH t8))
 intro J3
 refine aC ?_
 rcases jO (kd != 2) with t11 | t11
 ·refine aY f39 8 [1,2,10] [] [bG r1 0,vi kd,vT,vT,bH r1 0 1,vi m,.bool (m != 0),.bool (m != 0)] [] (cR [[],[0]]<|eU vT (jP t11)<|jE [[],[],[0],[],[]]) (oC (m != 0) (fun t12=>?_) (fun t12=>?_))
  ·rw [t12]
   refine jJ f39 1 [1,2] [vF] (aG (aB ?_))
   exact mR (v:=vF) (fun _ hS=>⟨jB (GG (by have:=xP t11;have:=xP t12;unfold DY;omega)),hS.dM⟩)
  rw [t12]
  refine aI (aA ?_)
  exact CS J3 () (oB (xP t11) (sH t12))
 refine aY f39 8 [1,2,10] [] [bG r1 0,vi kd,vF,vF,Jz,Jz,Jz,vF] [] (cR [[],[0]]<|eU vF (jP t11)<|jX 5) (oN (aI (aA ?_)))
 exact CS J3 () (oA (sH t11))
abbrev EF:=[[],[],[],[0],[]]
abbrev Eu:=[[],[0],[],[]]
theorem rdfields_any (kd:Int) (m:Int) (nu:Nat) (h:Nat) (ka:OA) (kc:Nat) (ks:List dB) (hh:h<M) (w0:JB):Calls prog 34 #[bW (kJ kd m (nu:Int) h (aW ka ks.length kc))] w0 (jR (.bool (fdN kd m nu h ks.length)) w0):=by
 refine Calls.cW 68 (fun _=>True) func34 rfl rfl rfl jT (sS f34 2 [1,2] [] (fun r=>[bG r 0,vF]) (fun r=>(pO 0 r (kJ kd m (nu:Int) h (aW ka ks.length kc)) 50)) (jX 2) (fun r1=>jM f34 4 [1,2,3] [] [bH r1 0 35,aW ka ks.length kc,vn ks.length,vn ks.length] Eu (Bd (σ:=Unit) (fun _=>[(1,(bG r1 0)),(3,(vn ks.length))]) (fun _=>[(nb r1 0,(bM (kJ kd m (nu:Int) h (aW ka ks.length kc))))]) (fun _=>(fun _=>True)) (fun _=>(kd=3\/kd=4\/nu=0)/\(kd=5\/h=0)) ?_ ?_)))
 ·rintro _u ⟨hj2,hj3⟩
  refine aC (jM f34 2 [1,3,32] [] [bG r1 0,vi kd] [[],[0]] (aJ (jJ f34 2 [1,3,32,33] [.bool (kd==1),.bool (kd==1)] (oC (kd==1) (fun t1=>?_) (fun t1=>?_)))))
  ·rw [t1]
   rcases jO ((ks.length:Int)==1) with t2 | t2
   ·refine aY f34 8 [1,2,3] [] [vn ks.length,vT,vT,bH r1 0 1,vi m,.bool (m==0),.bool (m==0),.bool (m==0)] [] (jY 1<|eU vT (jP t2)<|jE [[],[],[0],[],[],[]]) (aG (aQ (aB ?_)))
    exact mR (v:=(.bool (m==0))) (fun _ hS=>⟨jB (fd_b (by have:=F6 t1;have:=F6 t2;have:=hj2;have:=hj3;unfold DY;omega)),hS.dM⟩)
   refine aY f34 8 [1,2,3] [] [vn ks.length,vF,vF,Jz,Jz,Jz,vF,vF] [] (jY 1<|eU vF (jP t2)<|jX 6) (aG (aQ (aB ?_)))
   exact mR (v:=vF) (fun _ hS=>⟨jB (GG (by have:=F6 t1;have:=rJ t2;have:=hj2;have:=hj3;unfold DY;omega)),hS.dM⟩)
  rw [t1]
  refine jJ f34 2 [1,3,42] [.bool (kd==2),.bool (kd==2)] (oC (kd==2) (fun t3=>?_) (fun t3=>?_))
  ·rw [t3]
   rcases jO (decide (1<=(ks.length:Int))) with t4 | t4
   ·rcases jO (decide ((ks.length:Int)<=15)) with t5 | t5
    ·rcases jO (decide (1<=m)) with t6 | t6
     ·refine aY f34 18 [1,2,3] [] (let qa:JA:=.bool (decide (m<=(ks.length:Int)));[vn ks.length,vT,vT,vn ks.length,vT,vT,vT,bH r1 0 1,vi m,vT,vT,vT,bH r1 0 1,vi m,vn ks.length,qa,qa,qa]) [] (jY 1<|eU vT (jP t4)<|jY 2<|eU vT (jP t5)<|cR x8<|eU vT (jP t6)<|jE [[],[],[],[0],[],[],[],[]]) (aG (aQ (aB ?_)))
      exact mR (v:=(.bool (decide (m<=(ks.length:Int))))) (fun _ hS=>⟨jB (fd_d (by have:=rJ t1;have:=F6 t3;have:=yT t4;have:=yT t5;have:=yT t6;have:=hj2;have:=hj3;unfold DY;omega)),hS.dM⟩)
     refine aY f34 18 [1,2,3] [] [vn ks.length,vT,vT,vn ks.length,vT,vT,vT,bH r1 0 1,vi m,vF,vF,vF,Jz,Jz,Jz,Jz,vF,vF] [] (jY 1<|eU vT (jP t4)<|jY 2<|eU vT (jP t5)<|cR x8<|eU vF (jP t6)<|jX 8) (aG (aQ (aB ?_)))
     exact mR (v:=vF) (fun _ hS=>⟨jB (GG (by have:=rJ t1;have:=F6 t3;have:=yT t4;have:=yT t5;have:=yF t6;have:=hj2;have:=hj3;unfold DY;omega)),hS.dM⟩)
    refine aY f34 18 [1,2,3] [] [vn ks.length,vT,vT,vn ks.length,vF,vF,vF,Jz,Jz,Jz,vF,vF,Jz,Jz,Jz,Jz,vF,vF] [] (jY 1<|eU vT (jP t4)<|jY 2<|eU vF (jP t5)<|jX 13) (aG (aQ (aB ?_)))
    exact mR (v:=vF) (fun _ hS=>⟨jB (GG (by have:=rJ t1;have:=F6 t3;have:=yT t4;have:=yF t5;have:=hj2;have:=hj3;unfold DY;omega)),hS.dM⟩)
   refine aY f34 18 [1,2,3] [] [vn ks.length,vF,vF,Jz,Jz,vF,vF,Jz,Jz,Jz,vF,vF,Jz,Jz,Jz,Jz,vF,vF] [] (jY 1<|eU vF (jP t4)<|jX 16) (aG (aQ (aB ?_)))
   exact mR (v:=vF) (fun _ hS=>⟨jB (GG (by have:=rJ t1;have:=F6 t3;have:=yF t4;have:=hj2;have:=hj3;unfold DY;omega)),hS.dM⟩)
  rw [t3]
  refine aI (aH (aA ?_))
  rcases jO ((ks.length:Int)==0) with t7 | t7
  ·refine aY f34 8 [2] [0] [vn ks.length,vT,vT,bH r1 0 1,vi m,.bool (m==0),.bool (m==0),.bool (m==0)] [] (jY 1<|eU vT (jP t7)<|jE [[],[],[0],[],[],[]]) (aG ?_)
   exact mR (v:=(.bool (m==0))) (fun _ hS=>⟨jB (fd_b (by have:=rJ t1;have:=rJ t3;have:=F6 t7;have:=hj2;have:=hj3;unfold DY;omega)),hS.dM⟩)
  refine aY f34 8 [2] [0] [vn ks.length,vF,vF,Jz,Jz,Jz,vF,vF] [] (jY 1<|eU vF (jP t7)<|jX 6) (aG ?_)
  exact mR (v:=vF) (fun _ hS=>⟨jB (GG (by have:=rJ t1;have:=rJ t3;have:=rJ t7;have:=hj2;have:=hj3;unfold DY;omega)),hS.dM⟩)
 intro J1
 refine aC ?_
 rcases jO ((nu:Int) != 0) with t8 | t8
 ·rcases jO (kd != 3) with t9 | t9
  ·rcases jO (kd != 4) with t10 | t10
   ·refine aY f34 24 [1,2,3,30] [] [bH r1 0 2,vu nu,vT,vT,bG r1 0,vi kd,vT,vT,vT,bG r1 0,vi kd,vT,vT,vT,Jz,Jz,Jz,Jz,Jz,Jz,Jz,Jz,Jz,vT] [] (cR [[],[0]]<|eU vT (jP t8)<|cR qA<|eU vT (jP t9)<|cR x8<|eU vT (jP t10)<|jX 12) (oY (jJ f34 1 [1,2,3] [vF] (aG (aB ?_))))
    exact mR (v:=vF) (fun _ hS=>⟨jB (GG (by have:=xP t8;have:=xP t9;have:=xP t10;unfold DY;omega)),hS.dM⟩)
   rcases jO (decide (h=0)) with t11 | t11
   ·refine aY f34 24 [1,2,3,30] [] [bH r1 0 2,vu nu,vT,vT,bG r1 0,vi kd,vT,vT,vT,bG r1 0,vi kd,vF,vF,vF,bH r1 0 3,oG h,uZ,vF,vF,Jz,Jz,Jz,vF,vF] [] (cR [[],[0]]<|eU vT (jP t8)<|cR qA<|eU vT (jP t9)<|cR x8<|eU vF (jP t10)<|cR EF<|cB (a:=fun r=>(oG h)) (b:=fun r=>uZ) (v:=fun r=>vF) .neq 47 (fun _ _=>(neqH h 0 hh dK _).trans (by rw [t11];try rfl))<|jX 6) (oN (aI (aA ?_)))
    exact CS J1 () (⟨(by have:=xP t8;have:=xP t9;have:=sH t10;have:=yT t11;omega),(by have:=xP t8;have:=xP t9;have:=sH t10;have:=yT t11;omega)⟩)
   refine aY f34 24 [1,2,3,30] [] [bH r1 0 2,vu nu,vT,vT,bG r1 0,vi kd,vT,vT,vT,bG r1 0,vi kd,vF,vF,vF,bH r1 0 3,oG h,uZ,vT,vT,bG r1 0,vi kd,vT,vT,vT] [] (cR [[],[0]]<|eU vT (jP t8)<|cR qA<|eU vT (jP t9)<|cR x8<|eU vF (jP t10)<|cR EF<|cB (a:=fun r=>(oG h)) (b:=fun r=>uZ) (v:=fun r=>vT) .neq 47 (fun _ _=>(neqH h 0 hh dK _).trans (by rw [t11];try rfl))<|cR qA<|xU (kd != 5) true (show (kd != 5)=true by rw [sH t10];rfl)<|jX 2) (oY (jJ f34 1 [1,2,3] [vF] (aG (aB ?_))))
   exact mR (v:=vF) (fun _ hS=>⟨jB (GG (by have:=xP t8;have:=xP t9;have:=sH t10;have:=yF t11;unfold DY;omega)),hS.dM⟩)
  rcases jO (decide (h=0)) with t12 | t12
  ·refine aY f34 24 [1,2,3,30] [] [bH r1 0 2,vu nu,vT,vT,bG r1 0,vi kd,vF,vF,vF,Jz,Jz,Jz,vF,vF,bH r1 0 3,oG h,uZ,vF,vF,Jz,Jz,Jz,vF,vF] [] (cR [[],[0]]<|eU vT (jP t8)<|cR qA<|eU vF (jP t9)<|cR [[],[],[],[],[],[],[],[],[0],[]]<|cB (a:=fun r=>(oG h)) (b:=fun r=>uZ) (v:=fun r=>vF) .neq 47 (fun _ _=>(neqH h 0 hh dK _).trans (by rw [t12];try rfl))<|jX 6) (oN (aI (aA ?_)))
   exact CS J1 () (⟨(by have:=xP t8;have:=sH t9;have:=yT t12;omega),(by have:=xP t8;have:=sH t9;have:=yT t12;omega)⟩)
  refine aY f34 24 [1,2,3,30] [] [bH r1 0 2,vu nu,vT,vT,bG r1 0,vi kd,vF,vF,vF,Jz,Jz,Jz,vF,vF,bH r1 0 3,oG h,uZ,vT,vT,bG r1 0,vi kd,vT,vT,vT] [] (cR [[],[0]]<|eU vT (jP t8)<|cR qA<|eU vF (jP t9)<|cR [[],[],[],[],[],[],[],[],[0],[]]<|cB (a:=fun r=>(oG h)) (b:=fun r=>uZ) (v:=fun r=>vT) .neq 47 (fun _ _=>(neqH h 0 hh dK _).trans (by rw [t12];try rfl))<|cR qA<|xU (kd != 5) true (show (kd != 5)=true by rw [sH t9];rfl)<|jX 2) (oY (jJ f34 1 [1,2,3] [vF] (aG (aB ?_))))
  exact mR (v:=vF) (fun _ hS=>⟨jB (GG (by have:=xP t8;have:=sH t9;have:=yF t12;unfold DY;omega)),hS.dM⟩)
 rcases jO (decide (h=0)) with t13 | t13
 ·refine aY f34 24 [1,2,3,30] [] [bH r1 0 2,vu nu,vF,vF,Jz,Jz,Jz,vF,vF,Jz,Jz,Jz,vF,vF,bH r1 0 3,oG h,uZ,vF,vF,Jz,Jz,Jz,vF,vF] [] (cR [[],[0]]<|eU vF (jP t8)<|cR [[],[],[],[],[],[],[],[],[],[],[],[],[0],[]]<|cB (a:=fun r=>(oG h)) (b:=fun r=>uZ) (v:=fun r=>vF) .neq 47 (fun _ _=>(neqH h 0 hh dK _).trans (by rw [t13];try rfl))<|jX 6) (oN (aI (aA ?_)))
  exact CS J1 () (⟨(oB (sH t8) (yT t13)),(oB (sH t8) (yT t13))⟩)
 refine aY f34 24 [1,2,3,30] [] [bH r1 0 2,vu nu,vF,vF,Jz,Jz,Jz,vF,vF,Jz,Jz,Jz,vF,vF,bH r1 0 3,oG h,uZ,vT,vT,bG r1 0,vi kd,.bool (kd != 5),.bool (kd != 5),.bool (kd != 5)] [] (cR [[],[0]]<|eU vF (jP t8)<|cR [[],[],[],[],[],[],[],[],[],[],[],[],[0],[]]<|cB (a:=fun r=>(oG h)) (b:=fun r=>uZ) (v:=fun r=>vT) .neq 47 (fun _ _=>(neqH h 0 hh dK _).trans (by rw [t13];try rfl))<|jE [[],[],[0],[],[],[]]) (oC (kd != 5) (fun t14=>?_) (fun t14=>?_))
 ·rw [t14]
  refine jJ f34 1 [1,2,3] [vF] (aG (aB ?_))
  exact mR (v:=vF) (fun _ hS=>⟨jB (GG (by have:=sH t8;have:=yF t13;have:=xP t14;unfold DY;omega)),hS.dM⟩)
 rw [t14]
 refine aI (aA ?_)
 exact CS J1 () (⟨(by have:=sH t8;have:=yF t13;have:=sH t14;omega),(by have:=sH t8;have:=yF t13;have:=sH t14;omega)⟩)
theorem dj1 {x a z:Int} (h:decide (a<=x)=false):(false=true)↔(a<=x/\x<=z):=⟨fun q=>absurd q dC,fun q=>absurd q.1 (of_decide_eq_false h)⟩
theorem dj3 {x a z:Int} (h:decide (a<=x)=true):(decide (x<=z)=true)↔(a<=x/\x<=z):=⟨fun q=>⟨of_decide_eq_true h,of_decide_eq_true q⟩,fun q=>decide_eq_true q.2⟩
theorem iT {p:Prop} (h:(false=true)↔p): ¬ p:=fun q=>absurd (h.2 q) dC
abbrev qy217:=fun p0=>(.tuple #[bU p0,vT]:JA)
theorem digit_any (c:Nat) (hc:c<256) (w0:JB):Calls prog 115 #[vy c] w0 (jR (.tuple #[vy (dg c),.bool (AU c)]) w0):=by
 refine Calls.cW 33 (fun _=>True) func115 rfl rfl rfl jT (jJ f115 2 [0,2,3] [bU 0,vF] (aC (aJ (Bd (σ:=Bool) (fun b1=>[(0,(vy c)),(2,(bU 0)),(3,vF),(4,(.bool b1))]) eN (fun _=>(fun _=>True)) (fun b1=>((b1=true)↔((48:Int)<=(c:Int)/\(c:Int)<=57))) ?_ ?_))))
 ·rintro b1 hv1
  refine oC b1 (fun h1=>?_) (fun h1=>?_)
  ·subst h1
   refine aY f115 4 [2,3] [] (let qa:JA:=.int .u8 ((c:Int)-48);[vy c,qa,qa,vT]) [] (jY 1<|cA (v:=fun r=>(bU (IW.wrap ((c:Int)-48)))) (fun _=>(bU ((c:Int)-48))) (fun _=>congrArg (IR .u8) (u8I (oA (IV hv1 rfl))))<|jX 2) (aG (aQ (aB ?_)))
   exact mR (v:=(qy217 ((c:Int)-48))) (fun _ hS=>⟨congrArg IL (D6 (by rw [(dg1 (oA (IV hv1 rfl))).1];have:=IV hv1 rfl;omega) (dg1 (oA (IV hv1 rfl))).2.symm),hS.dM⟩)
  subst h1
  refine Bd (σ:=Bool) (fun b3=>[(0,(vy c)),(2,(bU 0)),(3,vF),(13,(.bool b3))]) eN (fun _=>(fun _=>True)) (fun b3=>((b3=true)↔((97:Int)<=(c:Int)/\(c:Int)<=102))) ?_ ?_
  ·rintro b3 hv3
   refine oC b3 (fun h2=>?_) (fun h2=>?_)
   ·subst h2
    refine aY f115 5 [2,3] [] (let qa:JA:=.int .u8 (((c:Int)-97)+10);[vy c,bU ((c:Int)-97),qa,qa,vT]) [] (jY 1<|cA (v:=fun r=>(bU (IW.wrap ((c:Int)-97)))) (fun _=>(bU ((c:Int)-97))) (fun _=>congrArg (IR .u8) (u8I (oB (iT hv1) (IV hv3 rfl))))<|cA (v:=fun r=>(bU (IW.wrap (((c:Int)-97)+10)))) (fun _=>(bU (((c:Int)-97)+10))) (fun _=>congrArg (IR .u8) (u8I (oB (iT hv1) (IV hv3 rfl))))<|jX 2) (aG (aQ (aB ?_)))
    exact mR (v:=(qy217 (((c:Int)-97)+10))) (fun _ hS=>⟨congrArg IL (D6 (by rw [(dg2 (oB (iT hv1) (IV hv3 rfl)) (oB (iT hv1) (IV hv3 rfl))).1];have:=iT hv1;have:=IV hv3 rfl;omega) (dg2 (oB (iT hv1) (IV hv3 rfl)) (oB (iT hv1) (IV hv3 rfl))).2.symm),hS.dM⟩)
   subst h2
   refine Bd (σ:=Bool) (fun b5=>[(0,(vy c)),(2,(bU 0)),(3,vF),(23,(.bool b5))]) eN (fun _=>(fun _=>True)) (fun b5=>((b5=true)↔((65:Int)<=(c:Int)/\(c:Int)<=70))) ?_ ?_
   ·rintro b5 hv5
    refine oC b5 (fun h3=>?_) (fun h3=>?_)
    ·subst h3
     refine aY f115 5 [2,3] [] (let qa:JA:=.int .u8 (((c:Int)-65)+10);[vy c,bU ((c:Int)-65),qa,qa,vT]) [] (jY 1<|cA (v:=fun r=>(bU (IW.wrap ((c:Int)-65)))) (fun _=>(bU ((c:Int)-65))) (fun _=>congrArg (IR .u8) (u8I (by have:=iT hv1;have:=iT hv3;have:=IV hv5 rfl;omega)))<|cA (v:=fun r=>(bU (IW.wrap (((c:Int)-65)+10)))) (fun _=>(bU (((c:Int)-65)+10))) (fun _=>congrArg (IR .u8) (u8I (by have:=iT hv1;have:=iT hv3;have:=IV hv5 rfl;omega)))<|jX 2) (aG (aQ (aB ?_)))
     exact mR (v:=(qy217 (((c:Int)-65)+10))) (fun _ hS=>⟨congrArg IL (D6 (by rw [(dg3 (by have:=iT hv1;have:=iT hv3;have:=IV hv5 rfl;omega) (by have:=iT hv1;have:=iT hv3;have:=IV hv5 rfl;omega) (by have:=iT hv1;have:=iT hv3;have:=IV hv5 rfl;omega)).1];have:=iT hv1;have:=iT hv3;have:=IV hv5 rfl;omega) (dg3 (by have:=iT hv1;have:=iT hv3;have:=IV hv5 rfl;omega) (by have:=iT hv1;have:=iT hv3;have:=IV hv5 rfl;omega) (by have:=iT hv1;have:=iT hv3;have:=IV hv5 rfl;omega)).2.symm),hS.dM⟩)
    subst h3
    refine aI (aH (aA (jJ f115 2 [2,3] [bU 0,vF] (aG ?_))))
    exact mR (v:=(.tuple #[bU 0,vF])) (fun _ hS=>⟨congrArg IL (D6 (by rw [(dg0 (by have:=iT hv1;have:=iT hv3;have:=iT hv5;omega) (by have:=iT hv1;have:=iT hv3;have:=iT hv5;omega) (by have:=iT hv1;have:=iT hv3;have:=iT hv5;omega)).1];rfl) (dg0 (by have:=iT hv1;have:=iT hv3;have:=iT hv5;omega) (by have:=iT hv1;have:=iT hv3;have:=iT hv5;omega) (by have:=iT hv1;have:=iT hv3;have:=iT hv5;omega)).2.symm),hS.dM⟩)
   intro J1
   rcases jO (decide (65<=(c:Int))) with h4 | h4
   ·refine aY f115 7 [0,2,3,23] [] (let qa:JA:=.bool (decide ((c:Int)<=70));[vy c,vT,vT,vy c,qa,qa,qa]) [] (jY 1<|eU vT (jP h4)<|jX 5) (?_)
    exact CS J1 (decide ((c:Int)<=70)) (dj3 h4)
   refine aY f115 7 [0,2,3,23] [] [vy c,vF,vF,Jz,Jz,vF,vF] [] (jY 1<|eU vF (jP h4)<|jX 5) (?_)
   exact CS J1 false (dj1 h4)
  intro J2
  rcases jO (decide (97<=(c:Int))) with h5 | h5
  ·refine aY f115 7 [0,2,3,13] [] (let qa:JA:=.bool (decide ((c:Int)<=102));[vy c,vT,vT,vy c,qa,qa,qa]) [] (jY 1<|eU vT (jP h5)<|jX 5) (?_)
   exact CS J2 (decide ((c:Int)<=102)) (dj3 h5)
  refine aY f115 7 [0,2,3,13] [] [vy c,vF,vF,Jz,Jz,vF,vF] [] (jY 1<|eU vF (jP h5)<|jX 5) (?_)
  exact CS J2 false (dj1 h5)
 intro J3
 rcases jO (decide (48<=(c:Int))) with h6 | h6
 ·refine aY f115 7 [0,2,3,4] [] (let qa:JA:=.bool (decide ((c:Int)<=57));[vy c,vT,vT,vy c,qa,qa,qa]) [] (jY 1<|eU vT (jP h6)<|jX 5) (?_)
  exact CS J3 (decide ((c:Int)<=57)) (dj3 h6)
 refine aY f115 7 [0,2,3,4] [] [vy c,vF,vF,Jz,Jz,vF,vF] [] (jY 1<|eU vF (jP h6)<|jX 5) (?_)
 exact CS J3 false (dj1 h6)
theorem Ic (c:Nat) (hc:c<256) (w0:JB):Calls prog 122 #[vy c] w0 (jR (.tuple #[vy (dg c),.bool (AU c)]) w0):=by
 refine Calls.cW 33 (fun _=>True) func122 rfl rfl rfl jT (jJ f122 2 [0,2,3] [bU 0,vF] (aC (aJ (Bd (σ:=Bool) (fun b1=>[(0,(vy c)),(2,(bU 0)),(3,vF),(4,(.bool b1))]) eN (fun _=>(fun _=>True)) (fun b1=>((b1=true)↔((48:Int)<=(c:Int)/\(c:Int)<=57))) ?_ ?_))))
 ·rintro b1 hv1
  refine oC b1 (fun h1=>?_) (fun h1=>?_)
  ·subst h1
   refine aY f122 4 [2,3] [] (let qa:JA:=.int .u8 ((c:Int)-48);[vy c,qa,qa,vT]) [] (jY 1<|cA (v:=fun r=>(bU (IW.wrap ((c:Int)-48)))) (fun _=>(bU ((c:Int)-48))) (fun _=>congrArg (IR .u8) (u8I (oA (IV hv1 rfl))))<|jX 2) (aG (aQ (aB ?_)))
   exact mR (v:=(qy217 ((c:Int)-48))) (fun _ hS=>⟨congrArg IL (D6 (by rw [(dg1 (oA (IV hv1 rfl))).1];have:=IV hv1 rfl;omega) (dg1 (oA (IV hv1 rfl))).2.symm),hS.dM⟩)
  subst h1
  refine Bd (σ:=Bool) (fun b3=>[(0,(vy c)),(2,(bU 0)),(3,vF),(13,(.bool b3))]) eN (fun _=>(fun _=>True)) (fun b3=>((b3=true)↔((97:Int)<=(c:Int)/\(c:Int)<=102))) ?_ ?_
  ·rintro b3 hv3
   refine oC b3 (fun h2=>?_) (fun h2=>?_)
   ·subst h2
    refine aY f122 5 [2,3] [] (let qa:JA:=.int .u8 (((c:Int)-97)+10);[vy c,bU ((c:Int)-97),qa,qa,vT]) [] (jY 1<|cA (v:=fun r=>(bU (IW.wrap ((c:Int)-97)))) (fun _=>(bU ((c:Int)-97))) (fun _=>congrArg (IR .u8) (u8I (oB (iT hv1) (IV hv3 rfl))))<|cA (v:=fun r=>(bU (IW.wrap (((c:Int)-97)+10)))) (fun _=>(bU (((c:Int)-97)+10))) (fun _=>congrArg (IR .u8) (u8I (oB (iT hv1) (IV hv3 rfl))))<|jX 2) (aG (aQ (aB ?_)))
    exact mR (v:=(qy217 (((c:Int)-97)+10))) (fun _ hS=>⟨congrArg IL (D6 (by rw [(dg2 (oB (iT hv1) (IV hv3 rfl)) (oB (iT hv1) (IV hv3 rfl))).1];have:=iT hv1;have:=IV hv3 rfl;omega) (dg2 (oB (iT hv1) (IV hv3 rfl)) (oB (iT hv1) (IV hv3 rfl))).2.symm),hS.dM⟩)
   subst h2
   refine Bd (σ:=Bool) (fun b5=>[(0,(vy c)),(2,(bU 0)),(3,vF),(23,(.bool b5))]) eN (fun _=>(fun _=>True)) (fun b5=>((b5=true)↔((65:Int)<=(c:Int)/\(c:Int)<=70))) ?_ ?_
   ·rintro b5 hv5
    refine oC b5 (fun h3=>?_) (fun h3=>?_)
    ·subst h3
     refine aY f122 5 [2,3] [] (let qa:JA:=.int .u8 (((c:Int)-65)+10);[vy c,bU ((c:Int)-65),qa,qa,vT]) [] (jY 1<|cA (v:=fun r=>(bU (IW.wrap ((c:Int)-65)))) (fun _=>(bU ((c:Int)-65))) (fun _=>congrArg (IR .u8) (u8I (by have:=iT hv1;have:=iT hv3;have:=IV hv5 rfl;omega)))<|cA (v:=fun r=>(bU (IW.wrap (((c:Int)-65)+10)))) (fun _=>(bU (((c:Int)-65)+10))) (fun _=>congrArg (IR .u8) (u8I (by have:=iT hv1;have:=iT hv3;have:=IV hv5 rfl;omega)))<|jX 2) (aG (aQ (aB ?_)))
     exact mR (v:=(qy217 (((c:Int)-65)+10))) (fun _ hS=>⟨congrArg IL (D6 (by rw [(dg3 (by have:=iT hv1;have:=iT hv3;have:=IV hv5 rfl;omega) (by have:=iT hv1;have:=iT hv3;have:=IV hv5 rfl;omega) (by have:=iT hv1;have:=iT hv3;have:=IV hv5 rfl;omega)).1];have:=iT hv1;have:=iT hv3;have:=IV hv5 rfl;omega) (dg3 (by have:=iT hv1;have:=iT hv3;have:=IV hv5 rfl;omega) (by have:=iT hv1;have:=iT hv3;have:=IV hv5 rfl;omega) (by have:=iT hv1;have:=iT hv3;have:=IV hv5 rfl;omega)).2.symm),hS.dM⟩)
    subst h3
    refine aI (aH (aA (jJ f122 2 [2,3] [bU 0,vF] (aG ?_))))
    exact mR (v:=(.tuple #[bU 0,vF])) (fun _ hS=>⟨congrArg IL (D6 (by rw [(dg0 (by have:=iT hv1;have:=iT hv3;have:=iT hv5;omega) (by have:=iT hv1;have:=iT hv3;have:=iT hv5;omega) (by have:=iT hv1;have:=iT hv3;have:=iT hv5;omega)).1];rfl) (dg0 (by have:=iT hv1;have:=iT hv3;have:=iT hv5;omega) (by have:=iT hv1;have:=iT hv3;have:=iT hv5;omega) (by have:=iT hv1;have:=iT hv3;have:=iT hv5;omega)).2.symm),hS.dM⟩)
   intro J1
   rcases jO (decide (65<=(c:Int))) with h4 | h4
   ·refine aY f122 7 [0,2,3,23] [] (let qa:JA:=.bool (decide ((c:Int)<=70));[vy c,vT,vT,vy c,qa,qa,qa]) [] (jY 1<|eU vT (jP h4)<|jX 5) (?_)
    exact CS J1 (decide ((c:Int)<=70)) (dj3 h4)
   refine aY f122 7 [0,2,3,23] [] [vy c,vF,vF,Jz,Jz,vF,vF] [] (jY 1<|eU vF (jP h4)<|jX 5) (?_)
   exact CS J1 false (dj1 h4)
  intro J2
  rcases jO (decide (97<=(c:Int))) with h5 | h5
  ·refine aY f122 7 [0,2,3,13] [] (let qa:JA:=.bool (decide ((c:Int)<=102));[vy c,vT,vT,vy c,qa,qa,qa]) [] (jY 1<|eU vT (jP h5)<|jX 5) (?_)
   exact CS J2 (decide ((c:Int)<=102)) (dj3 h5)
  refine aY f122 7 [0,2,3,13] [] [vy c,vF,vF,Jz,Jz,vF,vF] [] (jY 1<|eU vF (jP h5)<|jX 5) (?_)
  exact CS J2 false (dj1 h5)
 intro J3
 rcases jO (decide (48<=(c:Int))) with h6 | h6
 ·refine aY f122 7 [0,2,3,4] [] (let qa:JA:=.bool (decide ((c:Int)<=57));[vy c,vT,vT,vy c,qa,qa,qa]) [] (jY 1<|eU vT (jP h6)<|jX 5) (?_)
  exact CS J3 (decide ((c:Int)<=57)) (dj3 h6)
 refine aY f122 7 [0,2,3,4] [] [vy c,vF,vF,Jz,Jz,vF,vF] [] (jY 1<|eU vF (jP h6)<|jX 5) (?_)
 exact CS J3 false (dj1 h6)
theorem xY (n:Nat) (hn:n<16) (w0:JB):Calls prog 51 #[vy n] w0 (jR (vy (iY n)) w0):=by
 refine Calls.cW 10 (fun _=>True) func51 rfl rfl rfl jT (jJ f51 1 [0,2] [bU 0] (aC (jJ f51 2 [0,2,4] [vy n,.bool (decide ((n:Int)<10))] (oC (decide ((n:Int)<10)) (fun b1=>?_) (fun b1=>?_)))))
 ·rw [b1]
  refine aY f51 3 [0,2] [] (let qa:JA:=.int .u8 (48+(n:Int));[vy n,qa,qa]) [] (jY 1<|cA (v:=fun r=>(bU (IW.wrap (48+(n:Int))))) (fun _=>(bU (48+(n:Int)))) (fun _=>congrArg (IR .u8) (u8I (oA (yT b1))))<|jX 1) (aG (aB ?_))
  exact mR (v:=(bU (48+(n:Int)))) (fun _ hS=>⟨congrArg (fun x=>IL (bU x)) (by unfold iY;rw [if_pos (oA (yT b1))];omega),hS.dM⟩)
 rw [b1]
 have:=yF b1
 refine aI (aA (aY f51 4 [2] [] (let qa:JA:=.int .u8 ((97+(n:Int))-10);[vy n,bU (97+(n:Int)),qa,qa]) [] (jY 1<|cA (v:=fun r=>(bU (IW.wrap (97+(n:Int))))) (fun _=>(bU (97+(n:Int)))) (fun _=>congrArg (IR .u8) (u8I om))<|cA (v:=fun r=>(bU (IW.wrap ((97+(n:Int))-10)))) (fun _=>(bU ((97+(n:Int))-10))) (fun _=>congrArg (IR .u8) (u8I om))<|jX 1) (aG ?_)))
 exact mR (v:=(bU ((97+(n:Int))-10))) (fun _ hS=>⟨congrArg (fun x=>IL (bU x)) (by unfold iY;rw [if_neg om];omega),hS.dM⟩)
abbrev FP:=fun p0 p1=>vy (iY (gB p0 p1 / 16))
abbrev FH:=fun p0 p1=>vy (iY (gB p0 p1%16))
abbrev GX:=fun p0 p1=>vy (gB p0 p1 / 16)
abbrev qy207:=fun p0 p1 p2=>nw p0 7 (cL #[FP p1 p2,FH p1 p2] 5)
theorem hex_any (a:OA) (c:Nat) (B:LU) (h46:B.length<=70368744175616) (w0:JB) (hf0:Bs w0 a c B):Calls prog 28 #[aW a B.length c] w0 (jR (kD (dH (kU B))) w0):=by
 refine Calls.cW 28 (fun w=>Bs w a c B/\True) func28 rfl rfl rfl (hf0.dW.and iD) (jJ f28 1 [0,2] [kD ⟨#[]⟩] (sS f28 5 [0,2,3] [] (fun r=>let qa:=vs (nb r 3) ([]:LU).length (2*B.length);[aW a B.length c,vn B.length,vn (2*B.length),qa,qa]) (fun r=>(pO 3 r (zB (2*B.length)) 5)) (jY 2<|oD (nG 2 B.length om)<|cX (Eg _ (fun _=>do pure (IX (<- Jd 35 (vi 0) (vn (2*B.length))))) (fun _ ζ=>(fE ([]:LU) (ζ.headD 0) (2*B.length))) (fun _ _=>(cL (zB (2*B.length)) 5)) (fun _ _=>kr) (fun _=>kr) tV (fun _ _ w _=>yH underlying35 uT ([]:LU) (rfl) (rfl) (IU _) om w))<|jX 1) (fun r2=>aC (jJ f28 3 [2,3,10,11,12] [aW a B.length c,vn B.length,vi 0] (aJ ?_)))))
 refine oL (σ:=Nat × (LU) × (Array JA)) (fun ⟨i,X,_⟩=>[(2,(kD ⟨#[]⟩)),(3,(vs (nb r2 3) X.length (2*B.length))),(10,(aW a B.length c)),(11,(vn B.length)),(12,(vn i))]) (fun ⟨_,_,C⟩=>[(nb r2 3,(cL C 5))]) (fun ⟨i,_,_⟩=>B.length-i)
  (fun ⟨i,X,C⟩=>(i<=B.length)/\(X=kU (B.take i))/\(Hd C X)/\(C.size=2*B.length)) (0,([]:LU),zB (2*B.length)) (⟨IU _,rfl,Hd.nil _,zT _⟩) [] ?_
 rintro ⟨i,X,C⟩ ⟨hi,hX,hC,hs⟩
 refine jJ f28 1 [2,3,10,11,12,13] [.bool (decide ((i:Int)<(B.length:Int)))] (aC (oC (decide ((i:Int)<(B.length:Int))) (fun t1=>?_) (fun t1=>?_)))
 ·rw [t1]
  have:=yT t1
  have zh1:i<B.length:=(oA (nP hi hX))
  refine aI (aA (aC (aJ (aY f28 3 [2,3,5,10,11,12] [] [tY a i,kH B i,kH B i] [] (nM (fun hG=>nO (k:=.i64) underlying35 uT hG.fn.1 rfl (show (i:Int)=(i:Int) from rfl) zh1)<|nM (fun hG=>pU isAgg5 hG.fn.1 zh1)<|jX 1) (rD f28 [0,0,2,6,0,16,48,126,255,511] 10 [2,3,10,11,12] [1,0] (fun r=>let qa:=([ob (iY (gB B i / 16):Int),ob (iY (gB B i%16):Int)]:LU);let qb:=vs (nb r2 3) (X++qa).length (2*B.length);[vs (nb r2 3) X.length (2*B.length),kH B i,GX B i,FP B i,kH B i,vy (gB B i%16),FH B i,vs (nb r 7) qa.length 2,qb,qb]) (fun r=>[(7,(qy207 r B i)),(8,(jD 0 r2 3 (lK C X.length (bs ([ob (iY (gB B i / 16):Int),ob (iY (gB B i%16):Int)]:LU))) 5))]) (jY 2<|cB (a:=fun r=>(kH B i)) (b:=fun r=>(rP 4)) (v:=fun r=>(GX B i)) .shr 5 (fun _ w=>pM (k:=.u8) (x:=gB B i) (c:=4) (gV B i) w)<|pI (I4 9 (aU [48,49,50,51,52,53,54,55,56,57,97,98,99,100,101,102]) (GX B i)) (FP B i) (fun w=>(nK (S:=([48,49,50,51,52,53,54,55,56,57,97,98,99,100,101,102]:LU)) underlying9 (show ((gB B i / 16:Nat):Int)=(((gB B i / 16):Nat):Int) from rfl) (show (gB B i / 16)<([48,49,50,51,52,53,54,55,56,57,97,98,99,100,101,102]:LU).length from (by have:=gV B i;show gB B i / 16<16;omega)) w).trans (by rw [gB_dig (show gB B i / 16<16 by have:=gV B i;omega)]))<|jY 1<|eU (vy (gB B i%16)) (congrArg (IR .u8) (and15 (gV B i)))<|pI (I4 9 (aU [48,49,50,51,52,53,54,55,56,57,97,98,99,100,101,102]) (vy (gB B i%16))) (FH B i) (fun w=>(nK (S:=([48,49,50,51,52,53,54,55,56,57,97,98,99,100,101,102]:LU)) underlying9 (show ((gB B i%16:Nat):Int)=(((gB B i%16):Nat):Int) from rfl) (show (gB B i%16)<([48,49,50,51,52,53,54,55,56,57,97,98,99,100,101,102]:LU).length from (by have:=gV B i;show gB B i%16<16;omega)) w).trans (by rw [gB_dig (show gB B i%16<16 by have:=gV B i;omega)]))<|jY 1<|cX (pR _ 0 (fun r=>do pure (IX (<- Je #[35,35] 35 #[vs (nb r2 3) X.length (2*B.length),DI r 7 [ob (iY (gB B i / 16):Int),ob (iY (gB B i%16):Int)] 2]))) (fun _=>nb r2 3) (fun _=>(cL C 5)) (fun _=>(FN C X.length [ob (iY (gB B i / 16):Int),ob (iY (gB B i%16):Int)])) (fun _=>(fE (X++([ob (iY (gB B i / 16):Int),ob (iY (gB B i%16):Int)]:LU)) (nb r2 3) (2*B.length))) (fun _=>kr) (fun _=>kr) (fun _=>kr) (fun _=>kr) tV (fun r _ _ hG hg=>qL underlying35 uT hg (Bs.src (tx:=35) underlying35 (Bs.o7 (hG.kn (g:=nb r 7) (o:=(cL #[FP B i,FH B i] 5)) 57) (hd2 (yV (oA (gV B i))) (yV (oA (gV B i)))) (IP 2) lb)) hs (by simp only [IJ,IK];have:=nP hi hX;omega)))<|jX 1) (fun _=>aH (aA (lV f28 2 [2,3,10,11,12] [] [vn (i+1),vn (i+1)] [] (oD (bF i 1 (oA (nP hi hX)))<|jX 1) (?_)))))))))
  exact mN (i+1,X++([ob (iY (gB B i / 16):Int),ob (iY (gB B i%16):Int)]:LU),lK C X.length (bs ([ob (iY (gB B i / 16):Int),ob (iY (gB B i%16):Int)]:LU))) (by show B.length-(i+1)<B.length-i;have:=nP hi hX;omega) (⟨(oA (nP hi hX)),hx_next (oA (nP hi hX)) hX,Hd.lK hC rfl,(qR _ _ _ (yM hs (by simp only [IJ,IK];have:=nP hi hX;omega))).trans hs⟩) []
 rw [t1]
 refine bC (aF (aF (aO (aA (aY f28 3 [2] [0] [vs (nb r2 3) X.length (2*B.length),aU X,aU X] [] (jY 1<|cX (jF (fun _=>JC 35 9 (vs (nb r2 3) X.length (2*B.length))) (fun _=>(aU X)) (fun _ _ _ hG=>CE (xs:=X) underlying35 underlying5 underlying9 (Bs.o7 (hG.kn (g:=nb r2 3) (o:=(cL C 5)) 0) hC (oA (nP hi hX)) (oA (nP hi hX))) rfl) (fun _ _ _ _=>iD))<|jX 1) (aG ?_))))))
 exact mR (v:=(aU X)) (fun _ hS=>⟨congrArg (fun x=>IL (aU x)) (hx_end (oB (yF t1) (nP hi hX)) hX),hS.dM⟩)
theorem Ip (a:OA) (c:Nat) (B:LU) (h46:B.length<=70368744175616) (w0:JB) (hf0:Bs w0 a c B):Calls prog 30 #[aW a B.length c] w0 (jR (kD (dH (kU B))) w0):=by
 refine Calls.cW 24 (fun w=>Bs w a c B/\True) func30 rfl rfl rfl (hf0.dW.and iD) (jJ f30 1 [0,2] [kD ⟨#[]⟩] (jJ f30 1 [0,2,3] [vz] (aC (jJ f30 3 [2,3,6,7,8] [aW a B.length c,vn B.length,vi 0] (aJ ?_)))))
 refine oL (σ:=Nat ⊕ (Nat × Nat × (LU) × (Array JA) × Nat)) (fun s=>match s with | Jw i=>[(2,(kD ⟨#[]⟩)),(3,vz),(6,(aW a B.length c)),(7,(vn B.length)),(8,(vn i))] | Jn ⟨i,g,X,_,κ⟩=>[(2,(kD ⟨#[]⟩)),(3,(vs g X.length κ)),(6,(aW a B.length c)),(7,(vn B.length)),(8,(vn i))]) (fun s=>match s with | Jw _=>[] | Jn ⟨_,g,_,C,_⟩=>[(g,(cL C 5))]) (fun s=>match s with | Jw i=>B.length-i | Jn ⟨i,_,_,_,_⟩=>B.length-i)
  (fun s=>match s with | Jw i=>(i<=B.length)/\(i=0) | Jn ⟨i,_,X,C,κ⟩=>(i<=B.length)/\(X=kU (B.take i))/\(Hd C X)/\(C.size=κ)/\(X.length<=κ)) (Jw 0) (⟨IU _,rfl⟩) [] ?_
 rintro (i | ⟨i,g,X,C,κ⟩)
 ·rintro ⟨hi,h0⟩
  refine jJ f30 1 [2,3,6,7,8,9] [.bool (decide ((i:Int)<(B.length:Int)))] (aC (oC (decide ((i:Int)<(B.length:Int))) (fun t1=>?_) (fun t1=>?_)))
  ·rw [t1]
   have:=yT t1
   have zh1:i<B.length:=om
   refine aI (aA (aC (aJ (aY f30 3 [2,3,5,6,7,8] [] [tY a i,kH B i,kH B i] [] (nM (fun hG=>nO (k:=.i64) underlying35 uT hG.fn.1 rfl (show (i:Int)=(i:Int) from rfl) zh1)<|nM (fun hG=>pU isAgg5 hG.fn.1 zh1)<|jX 1) (rS f30 10 [2,3,6,7,8] [0,1] (fun r=>let qa:=([ob (iY (gB B i / 16):Int),ob (iY (gB B i%16):Int)]:LU);let qb:=vs (nb r 8) qa.length (qa.length+bV r 8);[vz,kH B i,GX B i,FP B i,kH B i,vy (gB B i%16),FH B i,vs (nb r 7) qa.length 2,qb,qb]) (fun r=>[(7,(qy207 r B i)),(8,(fB r 8 ((bs ([ob (iY (gB B i / 16):Int),ob (iY (gB B i%16):Int)]:LU)).toArray++zB (bV r 8)) 5))]) (jY 2<|cB (a:=fun r=>(kH B i)) (b:=fun r=>(bU 16)) (v:=fun r=>(GX B i)) .quo 5 (fun _ w=>run_quoU (k:=.u8) (n:=gB B i) (d:=16) rfl dC (gV B i) w)<|oO (xY (gB B i / 16) (oA (gV B i)))<|jY 1<|cB (a:=fun r=>(kH B i)) (b:=fun r=>(bU 16)) (v:=fun r=>(vy (gB B i%16))) .rem 5 (fun _ w=>xC (k:=.u8) (n:=gB B i) (d:=16) dC w)<|oO (xY (gB B i%16) (oA (gV B i)))<|jY 1<|cX (qN (fun _ ζ=>(fE ([ob (iY (gB B i / 16):Int),ob (iY (gB B i%16):Int)]:LU) (ζ.headD 0) (([ob (iY (gB B i / 16):Int),ob (iY (gB B i%16):Int)]:LU).length+ζ.tail.headD 0))) (fun _ ζ=>(cL ((bs ([ob (iY (gB B i / 16):Int),ob (iY (gB B i%16):Int)]:LU)).toArray++zB (ζ.tail.headD 0)) 5)) (fun r _ _ hG=>Em (ty:=35) underlying35 uT (Bs.src (tx:=35) underlying35 (Bs.o7 (hG.kn (g:=nb r 7) (o:=(cL #[FP B i,FH B i] 5)) 56) (hd2 (yV (oA (gV B i))) (yV (oA (gV B i)))) (IP 2) lb)) (Nat.zero_lt_succ _) lb))<|jX 1) (fun r6=>aH (aA (lV f30 2 [2,3,6,7,8] [] [vn (i+1),vn (i+1)] [] (oD (bF i 1 om)<|jX 1) (?_)))))))))
   exact mN (Jn (i+1,nb r6 8,([ob (iY (gB B i / 16):Int),ob (iY (gB B i%16):Int)]:LU),(bs ([ob (iY (gB B i / 16):Int),ob (iY (gB B i%16):Int)]:LU)).toArray++zB (bV r6 8),([ob (iY (gB B i / 16):Int),ob (iY (gB B i%16):Int)]:LU).length+bV r6 8)) (by show B.length-(i+1)<B.length-i;omega) (⟨om,hx_next om (by rw [h0];rfl:([]:LU)=kU (B.take i)),Hd.fresh _ _,Aj _ _,Ja _ _⟩) []
  rw [t1]
  refine bC (aF (aF (aO (aA (aY f30 3 [2] [] [vz,aU ([]:LU),aU ([]:LU)] [] (jY 1<|cX (jF (fun _=>JC 35 9 vz) (fun _=>(aU ([]:LU))) (fun _ _ _ _=>CE (xs:=([]:LU)) underlying35 underlying5 underlying9 Bs.nil rfl) (fun _ _ _ _=>iD))<|jX 1) (aG ?_))))))
  exact mR (v:=(aU ([]:LU))) (fun _ hS=>⟨congrArg (fun x=>IL (aU x)) (hx_end (oA (yF t1)) (by rw [h0];rfl:([]:LU)=kU (B.take i))),hS.dM⟩)
 rintro ⟨hi,hX,hC,hs,hle⟩
 refine jJ f30 1 [2,3,6,7,8,9] [.bool (decide ((i:Int)<(B.length:Int)))] (aC (oC (decide ((i:Int)<(B.length:Int))) (fun t2=>?_) (fun t2=>?_)))
 ·rw [t2]
  have:=yT t2
  refine aI (aA (aC (aJ (aY f30 3 [2,3,5,6,7,8] [] [tY a i,kH B i,kH B i] [] (nM (fun hG=>nO (k:=.i64) underlying35 uT hG.fn.1 rfl (show (i:Int)=(i:Int) from rfl) (show i<B.length from (oA (nP hi hX))))<|nM (fun hG=>pU isAgg5 hG.fn.1 (show i<B.length from (oA (nP hi hX))))<|jX 1) (?_)))))
  rcases jO (decide (X.length+([ob (iY (gB B i / 16):Int),ob (iY (gB B i%16):Int)]:LU).length<=κ)) with t3 | t3
  ·refine rS f30 10 [2,3,6,7,8] [1,0] (fun r=>let qa:=([ob (iY (gB B i / 16):Int),ob (iY (gB B i%16):Int)]:LU);let qb:=vs g (X++qa).length κ;[vs g X.length κ,kH B i,GX B i,FP B i,kH B i,vy (gB B i%16),FH B i,vs (nb r 7) qa.length 2,qb,qb]) (fun r=>[(7,(qy207 r B i)),(8,(mQ 0 g (FN C X.length [ob (iY (gB B i / 16):Int),ob (iY (gB B i%16):Int)])))]) (jY 2<|cB (a:=fun r=>(kH B i)) (b:=fun r=>(bU 16)) (v:=fun r=>(GX B i)) .quo 5 (fun _ w=>run_quoU (k:=.u8) (n:=gB B i) (d:=16) rfl dC (gV B i) w)<|oO (xY (gB B i / 16) (by have:=yT t3;have:=nP hi hX;have:=gV B i;omega))<|jY 1<|cB (a:=fun r=>(kH B i)) (b:=fun r=>(bU 16)) (v:=fun r=>(vy (gB B i%16))) .rem 5 (fun _ w=>xC (k:=.u8) (n:=gB B i) (d:=16) dC w)<|oO (xY (gB B i%16) (by have:=yT t3;have:=nP hi hX;have:=gV B i;omega))<|jY 1<|cX (pR _ 0 (fun r=>do pure (IX (<- Je #[35,35] 35 #[vs g X.length κ,DI r 7 [ob (iY (gB B i / 16):Int),ob (iY (gB B i%16):Int)] 2]))) (fun _=>g) (fun _=>(cL C 5)) (fun _=>(FN C X.length [ob (iY (gB B i / 16):Int),ob (iY (gB B i%16):Int)])) (fun _=>(fE (X++([ob (iY (gB B i / 16):Int),ob (iY (gB B i%16):Int)]:LU)) g κ)) (fun _=>kr) (fun _=>kr) (fun _=>kr) (fun _=>kr) tV (fun r _ _ hG hg=>qL underlying35 uT hg (Bs.src (tx:=35) underlying35 (Bs.o7 (hG.kn (g:=nb r 7) (o:=(cL #[FP B i,FH B i] 5)) 57) (hd2 (yV (oA (gV B i))) (yV (oA (gV B i)))) (IP 2) lb)) hs (yT t3)))<|jX 1) (fun _=>aH (aA (lV f30 2 [2,3,6,7,8] [] [vn (i+1),vn (i+1)] [] (oD (bF i 1 (oB (yT t3) (nP hi hX)))<|jX 1) (?_))))
   exact mN (Jn (i+1,g,X++([ob (iY (gB B i / 16):Int),ob (iY (gB B i%16):Int)]:LU),lK C X.length (bs ([ob (iY (gB B i / 16):Int),ob (iY (gB B i%16):Int)]:LU)),κ)) (by show B.length-(i+1)<B.length-i;have:=yT t3;have:=nP hi hX;omega) (⟨(oB (yT t3) (nP hi hX)),hx_next (oB (yT t3) (nP hi hX)) hX,Hd.lK hC rfl,(qR _ _ _ (yM hs (yT t3))).trans hs,vX (yT t3)⟩) []
  refine rS f30 10 [2,3,6,7,8] [0,0,1] (fun r=>let qa:=([ob (iY (gB B i / 16):Int),ob (iY (gB B i%16):Int)]:LU);let qb:=vs (nb r 8) (X++qa).length ((X++qa).length+bV r 8);[vs g X.length κ,kH B i,GX B i,FP B i,kH B i,vy (gB B i%16),FH B i,vs (nb r 7) qa.length 2,qb,qb]) (fun r=>[(7,(qy207 r B i)),(8,(fB r 8 (grow C X.length (bs ([ob (iY (gB B i / 16):Int),ob (iY (gB B i%16):Int)]:LU)) (bV r 8)) 5))]) (jY 2<|cB (a:=fun r=>(kH B i)) (b:=fun r=>(bU 16)) (v:=fun r=>(GX B i)) .quo 5 (fun _ w=>run_quoU (k:=.u8) (n:=gB B i) (d:=16) rfl dC (gV B i) w)<|oO (xY (gB B i / 16) (by have:=yF t3;have:=nP hi hX;have:=gV B i;omega))<|jY 1<|cB (a:=fun r=>(kH B i)) (b:=fun r=>(bU 16)) (v:=fun r=>(vy (gB B i%16))) .rem 5 (fun _ w=>xC (k:=.u8) (n:=gB B i) (d:=16) dC w)<|oO (xY (gB B i%16) (by have:=yF t3;have:=nP hi hX;have:=gV B i;omega))<|jY 1<|cX (qN (fun _ ζ=>(fE (X++([ob (iY (gB B i / 16):Int),ob (iY (gB B i%16):Int)]:LU)) (ζ.headD 0) ((X++([ob (iY (gB B i / 16):Int),ob (iY (gB B i%16):Int)]:LU)).length+ζ.tail.headD 0))) (fun _ ζ=>(cL (grow C X.length (bs ([ob (iY (gB B i / 16):Int),ob (iY (gB B i%16):Int)]:LU)) (ζ.tail.headD 0)) 5)) (fun r _ _ hG=>zZ (ty:=35) underlying35 uT (hG.kn (g:=g) (o:=(cL C 5)) 0) (Bs.src (tx:=35) underlying35 (Bs.o7 (hG.kn (g:=nb r 7) (o:=(cL #[FP B i,FH B i] 5)) 57) (hd2 (yV (oA (gV B i))) (yV (oA (gV B i)))) (IP 2) lb)) hs hle (Nat.lt_of_not_le (yF t3)) (by simp only [IJ,IK];have:=yF t3;have:=nP hi hX;omega)))<|jX 1) (fun r13=>aH (aA (lV f30 2 [2,3,6,7,8] [] [vn (i+1),vn (i+1)] [] (oD (bF i 1 (oB (yF t3) (nP hi hX)))<|jX 1) (?_))))
  exact mN (Jn (i+1,nb r13 8,X++([ob (iY (gB B i / 16):Int),ob (iY (gB B i%16):Int)]:LU),grow C X.length (bs ([ob (iY (gB B i / 16):Int),ob (iY (gB B i%16):Int)]:LU)) (bV r13 8),(X++([ob (iY (gB B i / 16):Int),ob (iY (gB B i%16):Int)]:LU)).length+bV r13 8)) (by show B.length-(i+1)<B.length-i;have:=yF t3;have:=nP hi hX;omega) (⟨(oB (yF t3) (nP hi hX)),hx_next (oB (yF t3) (nP hi hX)) hX,Hd.grow hC rfl,yB hC,Ja _ _⟩) []
 rw [t2]
 refine bC (aF (aF (aO (aA (aY f30 3 [2] [0] [vs g X.length κ,aU X,aU X] [] (jY 1<|cX (jF (fun _=>JC 35 9 (vs g X.length κ)) (fun _=>(aU X)) (fun _ _ _ hG=>CE (xs:=X) underlying35 underlying5 underlying9 (Bs.o7 (hG.kn (g:=g) (o:=(cL C 5)) 0) hC hle (oA (nP hi hX))) rfl) (fun _ _ _ _=>iD))<|jX 1) (aG ?_))))))
 exact mR (v:=(aU X)) (fun _ hS=>⟨congrArg (fun x=>IL (aU x)) (hx_end (oB (yF t2) (nP hi hX)) hX),hS.dM⟩)
theorem dsum_any (S:LU) (hS:S.length+1000<=140737488351232) (w0:JB) (hf0:FM w0) (hf1:F9 w0):Calls prog 12 #[kD (dH S)] w0 (jR (kD (dH (kU ((hL (l9 wS S)).take 4)))) w0):=by
 refine Calls.cW 9 (fun w=>FM w/\F9 w/\True) func12 rfl rfl rfl (hf0.dW.and (hf1.dW.and iD)) (jJ f12 1 [0,2] [kD ⟨#[]⟩] (wW f12 5 [2,3] [] (fun r=>[aU S,aW (oa r 1) S.length (nb r 1),oG (l9 wS S),bG r 3,Jz]) (fun r=>[(3,(fB r 3 (hB 0) 47)),(4,(jD 24 r 3 (hB (l9 wS S)) 47))]) (fun r=>[(1,fun w=>Fs w0 w (oa r 1) (nb r 1) S)]) (fun r=>(fun w=>FM w/\F9 w/\Fs w0 w (oa r 1) (nb r 1) S/\True)) (fun _=>True) (fun _ _ hF hf=>⟨⟨hF.1,hF.2.1,hf 1,trivial⟩,trivial⟩) (jY 1<|cX (o_newF _ (fun _=>do pure (IX (<- JC 9 35 (aU S)))) (fun _ α κ=>(aW α S.length κ)) (fun _=>S) (fun _ _=>kr) (fun _=>kr) (fun _ _=>kr) (fun _ _ w _=>EW underlying9 underlying35 underlying5 S om w))<|cX (qC (fun r _ w hG=>tagged_any wS (oa r 1) (nb r 1) S dC om w (show Fs w0 w (oa r 1) (nb r 1) S from (hG.facts 1 rfl).now).1 hG.fn.1 hG.fn.2.1))<|jE [[],[24]]) (fun r2 _=>aY f12 3 [2] [0] [vs (nb r2 3) ((hL (l9 wS S)).take 4).length 32,aU (kU ((hL (l9 wS S)).take 4)),aU (kU ((hL (l9 wS S)).take 4))] [] (jY 1<|zW (fun hG=>hex_any (rF r2 3 0) 32 ((hL (l9 wS S)).take 4) (by rw [I8,aT];decide) _ (Bs.o7 (c:=32) (hG.kn (g:=nb r2 3) (o:=(cL (hB (l9 wS S)) 47)) 0) (Hd.take (DK _) _) lb lb))<|jX 1) (aG ?_))))
 exact mR (v:=(aU (kU ((hL (l9 wS S)).take 4)))) (fun _ hS=>⟨rfl,hS.dM⟩)
theorem dsanew_any (dd:Nat) (edd:l9 wS ([]:LU)=dd) (w0:JB) (hf0:FM w0) (hf1:F9 w0):Calls prog 6 #[] w0 (jR vT w0):=by
 refine Calls.cW 12 (fun w=>FM w/\F9 w/\True) func6 rfl rfl rfl (hf0.dW.and (hf1.dW.and iD)) (jJ f6 1 [0] [vF] (aY f6 12 [0] [] [vi (lU 6),vT,vT,vi (lU 9),vT,vT,vT,aU (kU ((hL dd).take 4)),Ik (kU ((hL dd).take 4)),vT,vT,vT] [] (oO (rW 6)<|xU ((lU 6)==2) true (show ((lU 6)==2)=true from rfl)<|jY 1<|oO (rW 9)<|xU ((lU 9)==(-1)) true (show ((lU 9)==(-1))=true from rfl)<|jY 2<|cX (o_callP _ 12 (fun _=> #[kD ⟨#[]⟩]) (fun _=>(aU (kU ((hL dd).take 4)))) (fun _ _=>kr) (fun _=>kr) (fun _ _=>kr) tV (fun _ _ w hG=>(by as_aux_lemma=>(have hcall:=dsum_any ([]:LU) dC w hG.fn.1 hG.fn.2.1;rw [edd] at hcall;exact hcall))))<|jY 1<|eU vT (jP (sum_8 dd))<|jX 2) (aG ?_)))
 exact mR (v:=vT) (fun _ hS=>⟨rfl,hS.dM⟩)
theorem dsane_any (w0:JB) (hf0:FM w0) (hf1:F9 w0):Calls prog 6 #[] w0 (jR vT w0):=dsanew_any _ rfl w0 hf0 hf1
def CU (w:JB):Prop:=Lib.TabIs prog w "internal/strconv.uint64pow10" .u64 Lib.pow10Tab
theorem CU.dW {w:JB} (h:CU w):bZ (fun _=>False) (fun w=>CU w) w:=by
 have hg:prog.globalNamed "internal/strconv.uint64pow10" = some 2:=by kernel_rfl
 unfold CU Lib.TabIs World.var? at h
 simp only [hg,Jv] at h
 refine ⟨fun b=>b=2,fun b t=>⟨?_,id⟩,fun w' hw=>?_⟩
 ·rw [t]
  rcases Nat.lt_or_ge 2 w.heap.size with h' | h'
  ·exact h'
  ·rw [Array.getElem?_eq_none h'] at h;simp at h
 ·unfold CU Lib.TabIs World.var?
  simp only [hg,Jv,hw _ rfl]
  exact h
theorem Hu (u:Nat) (hu:u<18446744073709551616) (w:JB) (h:CU w):Calls prog 44 #[dJ u,.int .i64 10] w fun e w'=>e=.returned (kD (dH (dS u)))/\Below w.heap.size w w':=fmt_any u hu w h
theorem xE (n:Nat) (hn:n<4294967296) (w0:JB):Calls prog 47 #[vu n] w0 (jR (kD (dH (dS n))) w0):=by
 refine Calls.cW 7 (fun _=>True) func47 rfl rfl rfl jT (jJ f47 1 [0,2] [kD ⟨#[]⟩] (aY f47 5 [2] [] [vu n,vx n,U n,aU (dS n),aU (dS n)] [] (jY 1<|eU (vx n) (congrArg (IR .u64) (txU hn))<|cC (fun _ w=>lZ n w (Jk hn (by decide +kernel:4294967296<18446744073709551616)))<|oO (rtext_any n (Jk hn (by decide +kernel:4294967296<M)))<|jX 1) (aG ?_)))
 exact mR (v:=(aU (dS n))) (fun _ hS=>⟨rfl,hS.dM⟩)
abbrev Cm:=fun p0=>vn (nI p0).length
abbrev iJ:=fun p0=>cL p0 59
theorem Hl (p:dB) (hp:p.Ok) (w0:JB) (hf0:Is w0 .u32 p.pa p.pc (nI p.ps)) (hf1:CU w0):Calls prog 45 #[bW (dB.row p)] w0 (jR (kD (dH p.tx)) w0):=by
 refine Calls.cW 39 (fun w=>Is w .u32 p.pa p.pc (nI p.ps)/\CU w/\True) func45 rfl rfl rfl (hf0.dW.and (hf1.dW.and iD)) ?_
 have hlen:(nI p.ps).length<=140737488351232:=hf0.max
 have hnl:(nI p.ps).length=p.ps.length:=y9 p.ps
 refine sS f45 2 [1,2] [] (fun r=>[bG r 0,kD ⟨#[]⟩]) (fun r=>(pO 0 r (dB.row p) 59)) (jX 2) (fun r1=>wW f45 5 [1,2,3] [] (fun r=>[bG r1 0,bW (kY p.k),gW (uG p.k) (oa r 2) (nb r 2),aU (kU (uG p.k)),aU (kU (uG p.k))]) eN (fun r=>[(2,fun w=>Fs w0 w (oa r 2) (nb r 2) (uG p.k))]) (fun r=>(fun w=>Is w .u32 p.pa p.pc (nI p.ps)/\CU w/\Fs w0 w (oa r 2) (nb r 2) (uG p.k)/\True)) (fun _=>True) (fun _ _ hF hf=>⟨⟨hF.1,hF.2.1,hf 2,trivial⟩,trivial⟩) (cR [[],[0]]<|qBc (fun _=>kencode_any p.k hp.k _)<|cX (qC (fun r _ w hG=>hex_any (oa r 2) (nb r 2) (uG p.k) (by rw [zQ];decide) w (show Fs w0 w (oa r 2) (nb r 2) (uG p.k) from (hG.facts 2 rfl).now).1))<|jX 1) (fun r2 _=>aC (jM f45 4 [1,2,3,11,12,13] [] [bH r1 0 43,gW (nI p.ps) p.pa p.pc,Cm p.ps,vi 0] Eu (aJ ?_))))
 refine oL (σ:=Nat × (LU)) (fun ⟨i,X⟩=>[(1,(bG r1 0)),(2,(kD ⟨#[]⟩)),(3,(aU X)),(11,(gW (nI p.ps) p.pa p.pc)),(12,(Cm p.ps)),(13,(vn i))]) (fun ⟨_,_⟩=>[(nb r1 0,(iJ (dB.row p)))]) (fun ⟨i,_⟩=>(nI p.ps).length-i)
  (fun ⟨i,X⟩=>(i<=(nI p.ps).length)/\(X=kU (uG p.k)++EO (p.ps.take i))) (0,kU (uG p.k)) (⟨IU _,(Jf _).symm⟩) [] ?_
 rintro ⟨i,X⟩ ⟨hi,hX⟩
 refine jJ f45 1 [1,2,3,11,12,13,14] [.bool (decide ((i:Int)<(((nI p.ps).length:Nat):Int)))] (aC (oC (decide ((i:Int)<(((nI p.ps).length:Nat):Int))) (fun b1=>?_) (fun b1=>?_)))
 ·rw [b1]
  have:=yT b1
  have zh1:i<(nI p.ps).length:=om
  refine aI (aA (aC (aJ (aY f45 3 [1,2,3,5,11,12,13] [] [tY p.pa i,vu (p.ps.getD i 0),vu (p.ps.getD i 0)] [] (nM (fun hG=>vO (k:=.i64) underlying57 sizeOf45 hG.fn.1 rfl (show (i:Int)=(i:Int) from rfl) zh1)<|nM (v:=fun r=>(vu (p.ps.getD i 0))) (fun hG=>(yL isAgg45 hG.fn.1 zh1).trans (by rw [FZ]))<|jX 1) (jJ f45 2 [1,2,3,5,11,12,13,18] [vu (p.ps.getD i 0),.bool (decide (2147483648<=((p.ps.getD i 0:Nat):Int)))] (oC (decide (2147483648<=((p.ps.getD i 0:Nat):Int))) (fun b2=>?_) (fun b2=>?_)))))))
  ·rw [b2]
   have:=yT b2
   refine lV f45 9 [1,2,3,11,12,13] [] (let qa:=dH (X++((([47]:LU)++(dS (p.ps.getD i 0-2147483648)))++([104]:LU)));[aU X,vu (p.ps.getD i 0),vu (p.ps.getD i 0-2147483648),vx (p.ps.getD i 0-2147483648),aU (dS (p.ps.getD i 0-2147483648)),aU (([47]:LU)++(dS (p.ps.getD i 0-2147483648))),aU ((([47]:LU)++(dS (p.ps.getD i 0-2147483648)))++([104]:LU)),kD qa,kD qa]) [] (jY 2<|eU (vu (p.ps.getD i 0-2147483648)) (jN (txS (txG hp.ps i) b2))<|cA (v:=fun r=>(dJ (Jc.wrap ((p.ps.getD i 0-2147483648:Nat):Int)))) (fun _=>(vx (p.ps.getD i 0-2147483648))) (fun _=>congrArg (IR .u64) (txU (oA (txG hp.ps i))))<|zW (fun hG=>Hu (p.ps.getD i 0-2147483648) (oA (txG hp.ps i)) _ hG.fn.2.1)<|jC [47] (dS (p.ps.getD i 0-2147483648)) 9 (by have q0:=txG hp.ps i;have q1:=fA (n:=p.ps.getD i 0) (by omega);have q2:=fA (n:=p.ps.getD i 0-2147483648) (by omega);have q3:=y8 hX hp.ps;simp only [II,IJ,IK];omega)<|jC (([47]:LU)++(dS (p.ps.getD i 0-2147483648))) [104] 9 (by have q0:=txG hp.ps i;have q1:=fA (n:=p.ps.getD i 0) (by omega);have q2:=fA (n:=p.ps.getD i 0-2147483648) (by omega);have q3:=y8 hX hp.ps;simp only [II,IJ,IK];omega)<|jC X ((([47]:LU)++(dS (p.ps.getD i 0-2147483648)))++([104]:LU)) 9 (by have q0:=txG hp.ps i;have q1:=fA (n:=p.ps.getD i 0) (by omega);have q2:=fA (n:=p.ps.getD i 0-2147483648) (by omega);have q3:=y8 hX hp.ps;simp only [II,IJ,IK];omega)<|jX 1) (aH (aA (lV f45 2 [1,2,3,11,12,13] [] [vn (i+1),vn (i+1)] [] (oD (bF i 1 om)<|jX 1) (?_))))
   exact mN (i+1,X++((([47]:LU)++(dS (p.ps.getD i 0-2147483648)))++([104]:LU))) (by show (nI p.ps).length-(i+1)<(nI p.ps).length-i;omega) (⟨om,tx_next om hX (sg_h b2)⟩) []
  rw [b2]
  have:=yF b2
  refine lV f45 7 [1,2,3,11,12,13] [] (let qa:=dH (X++(([47]:LU)++(dS (p.ps.getD i 0))));[aU X,vu (p.ps.getD i 0),vx (p.ps.getD i 0),aU (dS (p.ps.getD i 0)),aU (([47]:LU)++(dS (p.ps.getD i 0))),kD qa,kD qa]) [] (jY 2<|cA (v:=fun r=>(dJ (Jc.wrap ((p.ps.getD i 0:Nat):Int)))) (fun _=>(vx (p.ps.getD i 0))) (fun _=>congrArg (IR .u64) (txU (oA (txG hp.ps i))))<|zW (fun hG=>Hu (p.ps.getD i 0) (oA (txG hp.ps i)) _ hG.fn.2.1)<|jC [47] (dS (p.ps.getD i 0)) 9 (by have q0:=txG hp.ps i;have q1:=fA (n:=p.ps.getD i 0) (by omega);have q2:=fA (n:=p.ps.getD i 0-2147483648) (by omega);have q3:=y8 hX hp.ps;simp only [II,IJ,IK];omega)<|jC X (([47]:LU)++(dS (p.ps.getD i 0))) 9 (by have q0:=txG hp.ps i;have q1:=fA (n:=p.ps.getD i 0) (by omega);have q2:=fA (n:=p.ps.getD i 0-2147483648) (by omega);have q3:=y8 hX hp.ps;simp only [II,IJ,IK];omega)<|jX 1) (aH (aA (lV f45 2 [1,2,3,11,12,13] [] [vn (i+1),vn (i+1)] [] (oD (bF i 1 om)<|jX 1) (?_))))
  exact mN (i+1,X++(([47]:LU)++(dS (p.ps.getD i 0)))) (by show (nI p.ps).length-(i+1)<(nI p.ps).length-i;omega) (⟨om,tx_next om hX (sg_n b2)⟩) []
 rw [b1]
 refine bC (aF (aF (aO (aA (aC (jM f45 2 [2,3,35] [0] [bH r1 0 44,.bool p.wd] [[],[0]] (oC p.wd (fun b3=>?_) (fun b3=>?_))))))))
 ·rw [b3]
  refine lV f45 3 [2,3] [] [aU X,aU (X++([47,42]:LU)),aU (X++([47,42]:LU))] [] (jY 1<|jC X [47,42] 9 (by have q3:=y8 hX hp.ps;simp only [II,IJ,IK];omega)<|jX 1) (aA (jJ f45 2 [2] [aU (X++([47,42]:LU)),aU (X++([47,42]:LU))] (aG ?_)))
  exact mR (v:=(aU (X++([47,42]:LU)))) (fun _ hS=>⟨congrArg (fun x=>IL (aU x)) (tx_w1 (oA (yF b1)) hX b3),hS.dM⟩)
 rw [b3]
 refine aI (aA (jJ f45 2 [2] [aU X,aU X] (aG ?_)))
 exact mR (v:=(aU X)) (fun _ hS=>⟨congrArg (fun x=>IL (aU x)) (tx_w0 (oA (yF b1)) hX b3),hS.dM⟩)
theorem Hy (p:dB) (hp:p.Ok) (w0:JB) (hf0:Is w0 .u32 p.pa p.pc (nI p.ps)):Calls prog 46 #[bW (dB.row p)] w0 (jR (kD (dH p.tx)) w0):=by
 refine Calls.cW 41 (fun w=>Is w .u32 p.pa p.pc (nI p.ps)/\True) func46 rfl rfl rfl (hf0.dW.and iD) ?_
 have hlen:(nI p.ps).length<=140737488351232:=hf0.max
 have hnl:(nI p.ps).length=p.ps.length:=y9 p.ps
 refine sS f46 2 [1,2] [] (fun r=>[bG r 0,kD ⟨#[]⟩]) (fun r=>(pO 0 r (dB.row p) 59)) (jX 2) (fun r1=>wW f46 5 [1,2,3] [] (fun r=>[bG r1 0,bW (kY p.k),gW (uG p.k) (oa r 2) (nb r 2),aU (kU (uG p.k)),aU (kU (uG p.k))]) eN (fun r=>[(2,fun w=>Fs w0 w (oa r 2) (nb r 2) (uG p.k))]) (fun r=>(fun w=>Is w .u32 p.pa p.pc (nI p.ps)/\Fs w0 w (oa r 2) (nb r 2) (uG p.k)/\True)) (fun _=>True) (fun _ _ hF hf=>⟨⟨hF.1,hf 2,trivial⟩,trivial⟩) (cR [[],[0]]<|qBc (fun _=>rkencode_any p.k hp.k _)<|cX (qC (fun r _ w hG=>Ip (oa r 2) (nb r 2) (uG p.k) (by rw [zQ];decide) w (show Fs w0 w (oa r 2) (nb r 2) (uG p.k) from (hG.facts 2 rfl).now).1))<|jX 1) (fun r2 _=>aC (jJ f46 1 [1,2,3,4] [vi 0] (aJ ?_))))
 refine oL (σ:=Nat × (LU)) (fun ⟨i,X⟩=>[(1,(bG r1 0)),(2,(kD ⟨#[]⟩)),(3,(aU X)),(4,(vn i))]) (fun ⟨_,_⟩=>[(nb r1 0,(iJ (dB.row p)))]) (fun ⟨i,_⟩=>(nI p.ps).length-i)
  (fun ⟨i,X⟩=>(i<=(nI p.ps).length)/\(X=kU (uG p.k)++EO (p.ps.take i))) (0,kU (uG p.k)) (⟨IU _,(Jf _).symm⟩) [] ?_
 rintro ⟨i,X⟩ ⟨hi,hX⟩
 refine aC (jM f46 5 [1,2,3,4,14] [] [vn i,bH r1 0 43,gW (nI p.ps) p.pa p.pc,Cm p.ps,.bool (decide ((i:Int)<(((nI p.ps).length:Nat):Int)))] [[],[],[0],[],[]] (oC (decide ((i:Int)<(((nI p.ps).length:Nat):Int))) (fun b1=>?_) (fun b1=>?_)))
 ·rw [b1]
  have:=yT b1
  have zh1:i<(nI p.ps).length:=om
  refine aI (aA (aC (aJ (aY f46 6 [1,2,3,4,5] [] [bH r1 0 43,gW (nI p.ps) p.pa p.pc,vn i,tY p.pa i,vu (p.ps.getD i 0),vu (p.ps.getD i 0)] [] (cR nS<|nM (fun hG=>vO (k:=.i64) underlying57 sizeOf45 hG.fn.1 rfl (show (i:Int)=(i:Int) from rfl) zh1)<|nM (v:=fun r=>(vu (p.ps.getD i 0))) (fun hG=>(yL isAgg45 hG.fn.1 zh1).trans (by rw [FZ]))<|jX 1) (jJ f46 2 [1,2,3,4,5,23] [vu (p.ps.getD i 0),.bool (decide (2147483648<=((p.ps.getD i 0:Nat):Int)))] (oC (decide (2147483648<=((p.ps.getD i 0:Nat):Int))) (fun b2=>?_) (fun b2=>?_)))))))
  ·rw [b2]
   have:=yT b2
   refine lV f46 8 [1,2,3,4] [] (let qa:=dH (((X++([47]:LU))++(dS (p.ps.getD i 0-2147483648)))++([104]:LU));[aU X,aU (X++([47]:LU)),vu (p.ps.getD i 0),vu (p.ps.getD i 0-2147483648),aU (dS (p.ps.getD i 0-2147483648)),aU ((X++([47]:LU))++(dS (p.ps.getD i 0-2147483648))),kD qa,kD qa]) [] (jY 1<|jC X [47] 9 (by have q3:=y8 hX hp.ps;simp only [II,IJ,IK];omega)<|jY 1<|eU (vu (p.ps.getD i 0-2147483648)) (jN (txS (txG hp.ps i) b2))<|oO (xE (p.ps.getD i 0-2147483648) (oA (txG hp.ps i)))<|jC (X++([47]:LU)) (dS (p.ps.getD i 0-2147483648)) 9 (by have q0:=txG hp.ps i;have q1:=fA (n:=p.ps.getD i 0) (by omega);have q2:=fA (n:=p.ps.getD i 0-2147483648) (by omega);have q3:=y8 hX hp.ps;simp only [II,IJ,IK];omega)<|jC ((X++([47]:LU))++(dS (p.ps.getD i 0-2147483648))) [104] 9 (by have q0:=txG hp.ps i;have q1:=fA (n:=p.ps.getD i 0) (by omega);have q2:=fA (n:=p.ps.getD i 0-2147483648) (by omega);have q3:=y8 hX hp.ps;simp only [II,IJ,IK];omega)<|jX 1) (aH (aA (lV f46 3 [1,2,3,4] [] [vn i,vn (i+1),vn (i+1)] [] (jY 1<|oD (bF i 1 om)<|jX 1) (?_))))
   exact mN (i+1,((X++([47]:LU))++(dS (p.ps.getD i 0-2147483648)))++([104]:LU)) (by show (nI p.ps).length-(i+1)<(nI p.ps).length-i;omega) (⟨om,tx_rh om hX b2⟩) []
  rw [b2]
  have:=yF b2
  refine lV f46 6 [1,2,3,4] [] (let qa:=dH ((X++([47]:LU))++(dS (p.ps.getD i 0)));[aU X,aU (X++([47]:LU)),vu (p.ps.getD i 0),aU (dS (p.ps.getD i 0)),kD qa,kD qa]) [] (jY 1<|jC X [47] 9 (by have q3:=y8 hX hp.ps;simp only [II,IJ,IK];omega)<|jY 1<|oO (xE (p.ps.getD i 0) (oA (txG hp.ps i)))<|jC (X++([47]:LU)) (dS (p.ps.getD i 0)) 9 (by have q0:=txG hp.ps i;have q1:=fA (n:=p.ps.getD i 0) (by omega);have q2:=fA (n:=p.ps.getD i 0-2147483648) (by omega);have q3:=y8 hX hp.ps;simp only [II,IJ,IK];omega)<|jX 1) (aH (aA (lV f46 3 [1,2,3,4] [] [vn i,vn (i+1),vn (i+1)] [] (jY 1<|oD (bF i 1 om)<|jX 1) (?_))))
  exact mN (i+1,(X++([47]:LU))++(dS (p.ps.getD i 0))) (by show (nI p.ps).length-(i+1)<(nI p.ps).length-i;omega) (⟨om,tx_rn om hX b2⟩) []
 rw [b1]
 refine bC (aF (aF (aO (aA (aC (jM f46 2 [2,3,37] [0] [bH r1 0 44,.bool p.wd] [[],[0]] (oC p.wd (fun b3=>?_) (fun b3=>?_))))))))
 ·rw [b3]
  refine lV f46 3 [2,3] [] [aU X,aU (X++([47,42]:LU)),aU (X++([47,42]:LU))] [] (jY 1<|jC X [47,42] 9 (by have q3:=y8 hX hp.ps;simp only [II,IJ,IK];omega)<|jX 1) (aA (jJ f46 2 [2] [aU (X++([47,42]:LU)),aU (X++([47,42]:LU))] (aG ?_)))
  exact mR (v:=(aU (X++([47,42]:LU)))) (fun _ hS=>⟨congrArg (fun x=>IL (aU x)) (tx_w1 (oA (yF b1)) hX b3),hS.dM⟩)
 rw [b3]
 refine aI (aA (jJ f46 2 [2] [aU X,aU X] (aG ?_)))
 exact mR (v:=(aU X)) (fun _ hS=>⟨congrArg (fun x=>IL (aU x)) (tx_w0 (oA (yF b1)) hX b3),hS.dM⟩)
theorem Fp (S:LU) (hS:S.length+1000<=140737488351232) (w0:JB):Calls prog 13 #[kD (dH S)] w0 (jR (kD (dH (kU ((hL (l9 wS S)).take 4)))) w0):=by
 refine Calls.cW 9 (fun _=>True) func13 rfl rfl rfl jT (jJ f13 1 [0,2] [kD ⟨#[]⟩] (wW f13 5 [2,3] [] (fun r=>[aU S,aW (oa r 1) S.length (nb r 1),oG (l9 wS S),bG r 3,Jz]) (fun r=>[(3,(fB r 3 (hB 0) 47)),(4,(jD 24 r 3 (hB (l9 wS S)) 47))]) (fun r=>[(1,fun w=>Fs w0 w (oa r 1) (nb r 1) S)]) (fun r=>(fun w=>Fs w0 w (oa r 1) (nb r 1) S/\True)) (fun _=>True) (fun _ _ _ hf=>⟨⟨hf 1,trivial⟩,trivial⟩) (jY 1<|cX (o_newF _ (fun _=>do pure (IX (<- JC 9 35 (aU S)))) (fun _ α κ=>(aW α S.length κ)) (fun _=>S) (fun _ _=>kr) (fun _=>kr) (fun _ _=>kr) (fun _ _ w _=>EW underlying9 underlying35 underlying5 S om w))<|cX (qC (fun r _ w hG=>rtagged_any wS (oa r 1) (nb r 1) S dC om w (show Fs w0 w (oa r 1) (nb r 1) S from (hG.facts 1 rfl).now).1))<|jE [[],[24]]) (fun r2 _=>aY f13 3 [2] [0] [vs (nb r2 3) ((hL (l9 wS S)).take 4).length 32,aU (kU ((hL (l9 wS S)).take 4)),aU (kU ((hL (l9 wS S)).take 4))] [] (jY 1<|zW (fun hG=>Ip (rF r2 3 0) 32 ((hL (l9 wS S)).take 4) (by rw [I8,aT];decide) _ (Bs.o7 (c:=32) (hG.kn (g:=nb r2 3) (o:=(cL (hB (l9 wS S)) 47)) 0) (Hd.take (DK _) _) lb lb))<|jX 1) (aG ?_))))
 exact mR (v:=(aU (kU ((hL (l9 wS S)).take 4)))) (fun _ hS=>⟨rfl,hS.dM⟩)
abbrev oH:=(.tuple #[]:JA)
abbrev Cf:=(cL #[kD ⟨#[44]⟩] 9:Obj)
abbrev uQ:=fun p0=>(cL #[aU p0] 9:Obj)
theorem tadd_any (X:LU) (g:Nat) (h:Nat) (S:LU) (C:LU) (hgh:g≠h) (hl:S.length+(C.length+X.length)<=9223372036854775807) (w0:JB) (hK:bI [(g,(cL #[kD (dH S)] 9)),(h,(cL #[kD (dH C)] 9))] w0) (hP:bZ (fun b=>b∈([(g,(cL #[kD (dH S)] 9)),(h,(cL #[kD (dH C)] 9))]:List (Nat × Obj)).map (·.1)) (fun _=>True) w0):Calls prog 42 #[kD (dH X),pt g,pt h] w0 (fun ε w'=>ε=.returned oH/\pG (fun b=>b∈([(g,(cL #[kD (dH S)] 9)),(h,(cL #[kD (dH C)] 9))]:List (Nat × Obj)).map (·.1)) w0 w'/\bI [(g,(cL #[kD (dH (S++(C++X)))] 9)),(h,Cf)] w'):=by
 refine Calls.nZ (n:=9) (F:=(fun _=>True)) [(g,(uQ S)),(h,(uQ C))] func42 rfl rfl rfl (by simp) hK (by simp [hgh]) hP ?_
 have hgn:g≠h:=hgh
 refine aY f42 6 [2] [] [aU S,aU C,aU X,aU (C++X),aU (S++(C++X)),Jz] [(5,(mQ 0 g (uQ (S++(C++X)))))] (cR [[0],[1],[]]<|jC C X 9 om<|jC S (C++X) 9 (by have:=hl;simp only [II];omega)<|jE [[0]]) (lV f42 1 [] [] [Jz] [(0,(mQ 1 h Cf))] (jE [[1]]) (mt_end ?_))
 exact mR (v:=oH) (fun _ hS=>⟨rfl,hS.aS,hS.dZ [1,1]⟩)
theorem rX (X:LU) (g h:Nat) (S C:LU) (h2:2<=S.length) (h1:C.length<=1) (hl:S.length+(C.length+X.length)<=9223372036854775807) (w0:JB) (hK:bI [(g,cL #[kD (dH S)] 9),(h,cL #[kD (dH C)] 9)] w0) (hP:bZ (fun b=>b∈([(g,cL #[kD (dH S)] 9),(h,cL #[kD (dH C)] 9)]:List (Nat × Obj)).map (·.1)) (fun _=>True) w0) :
 Calls prog 42 #[kD (dH X),pt g,pt h] w0 (fun ε w'=>ε=.returned oH/\pG (fun b=>b∈([(g,cL #[kD (dH S)] 9),(h,cL #[kD (dH C)] 9)]:List (Nat × Obj)).map (·.1)) w0 w'/\bI [(g,cL #[kD (dH (S++(C++X)))] 9),(h,cL #[kD ⟨#[44]⟩] 9)] w'):=by
 refine tadd_any X g h S C (fun e=>?_) hl w0 hK hP
 have a:=hK _ (Js ..)
 have b:=hK _ (List.mem_cons_of_mem _ (Js ..))
 rw [show ((h,cL #[aU C] 9):Nat × Obj).1=g from e.symm,a] at b
 have c:S=C:=by simpa [dH] using b
 rw [c] at h2;omega
theorem dhard_any (x:Nat) (w0:JB):Calls prog 69 #[vu x] w0 (jR (.bool (hdB x)) w0):=by
 refine Calls.cW 5 (fun _=>True) func69 rfl rfl rfl jT (jJ f69 1 [0,2] [vF] (jJ f69 3 [2] (let qa:JA:=.bool (decide (2147483648<=(x:Int)));[vu x,qa,qa]) (aG ?_)))
 exact mR (v:=(.bool (decide (2147483648<=(x:Int))))) (fun _ hS=>⟨jB (hd_dec x),hS.dM⟩)
abbrev qy178:=(.func (.func 69) #[] #[]:JA)
theorem ixfunc_any (a:OA) (c:Nat) (ps:List Nat) (w0:JB) (hf0:Is w0 .u32 a c (nI ps)):Calls prog 93 #[gW (nI ps) a c,qy178] w0 (jR (vi (ixA ps 0)) w0):=by
 refine Calls.cW 19 (fun w=>Is w .u32 a c (nI ps)/\True) func93 rfl rfl rfl (hf0.dW.and iD) ?_
 have hlen:(nI ps).length<=140737488351232:=hf0.max
 refine jJ f93 1 [0,1,4] [vi 0] (aC (jJ f93 3 [0,1,4,7,8] [gW (nI ps) a c,Cm ps,vi 0] (aJ ?_)))
 refine oL (σ:=Nat) (fun i=>[(0,(gW (nI ps) a c)),(1,qy178),(7,(Cm ps)),(8,(vn i))]) eN (fun i=>(nI ps).length-i)
  (fun i=>(i<=(nI ps).length)/\(ixA (ps.drop i) i=ixA ps 0)) 0 (⟨IU _,rfl⟩) [] ?_
 rintro i ⟨hi,hr⟩
 refine jJ f93 1 [0,1,7,8,9] [.bool (decide ((i:Int)<(((nI ps).length:Nat):Int)))] (aC (oC (decide ((i:Int)<(((nI ps).length:Nat):Int))) (fun b1=>?_) (fun b1=>?_)))
 ·rw [b1]
  have:=yT b1
  have zh1:i<(nI ps).length:=om
  refine aI (aA (aC (aJ (jJ f93 2 [0,1,5,7,8] [vn i,vn i] (aY f93 6 [0,1,5,7,8,16] [] [qy178,gW (nI ps) a c,vn i,tY a i,vu (ps.getD i 0),.bool (hdB (ps.getD i 0))] [] (jY 3<|nM (fun hG=>vO (k:=.i64) underlying57 sizeOf45 hG.fn.1 rfl (show (i:Int)=(i:Int) from rfl) zh1)<|nM (v:=fun r=>(vu (ps.getD i 0))) (fun hG=>(yL isAgg45 hG.fn.1 zh1).trans (by rw [FZ]))<|oO (dhard_any (ps.getD i 0))<|cN) (oC (hdB (ps.getD i 0)) (fun b2=>?_) (fun b2=>?_)))))))
  ·rw [b2]
   refine jJ f93 2 [0,1,4,7,8] [vn i,vn i] (aG (aQ (aB (aB (aQ (aB ?_))))))
   exact mR (v:=(vn i)) (fun _ hS=>⟨congrArg (fun x=>IL (vi x)) (ix_stop (oA (y9 ps)) b2 hr),hS.dM⟩)
  rw [b2]
  refine aI (aH (aA (lV f93 2 [0,1,7,8] [] [vn (i+1),vn (i+1)] [] (oD (bF i 1 om)<|jX 1) (?_))))
  exact mN (i+1) (by show (nI ps).length-(i+1)<(nI ps).length-i;omega) (⟨om,ix_next (oA (y9 ps)) b2 hr⟩) []
 rw [b1]
 refine bC (aF (aF (aO (aA (jJ f93 1 [4] [vi (-1)] (aG ?_))))))
 exact mR (v:=(vi (-1))) (fun _ hS=>⟨congrArg (fun x=>IL (vi x)) (ix_end (oB (y9 ps) (yF b1)) hr),hS.dM⟩)
theorem cofunc_any (a:OA) (c:Nat) (ps:List Nat) (w0:JB) (hf0:Is w0 .u32 a c (nI ps)):Calls prog 68 #[gW (nI ps) a c,qy178] w0 (jR (.bool (ps.any hdB)) w0):=by
 refine Calls.cW 9 (fun w=>Is w .u32 a c (nI ps)/\True) func68 rfl rfl rfl (hf0.dW.and iD) (jJ f68 1 [0,1,4] [vF] (aY f68 5 [4] [] (let qa:JA:=.bool (decide (0<=(ixA ps 0)));[gW (nI ps) a c,qy178,vi (ixA ps 0),qa,qa]) [] (jY 2<|zW (fun hG=>ixfunc_any a c ps _ hG.fn.1)<|jX 2) (aG ?_)))
 exact mR (v:=(.bool (decide (0<=(ixA ps 0))))) (fun _ hS=>⟨jB (ixA_any ps 0),hS.dM⟩)
abbrev qy236:=[[],[],[],[],[],[0],[]]
theorem dvpath_any (p:dB) (hp:p.Ok) (w0:JB) (hf0:Is w0 .u32 p.pa p.pc (nI p.ps)):Calls prog 40 #[bW (dB.row p)] w0 (jR (.bool (dB.vp p)) w0):=by
 refine Calls.cW 40 (fun w=>Is w .u32 p.pa p.pc (nI p.ps)/\True) func40 rfl rfl rfl (hf0.dW.and iD) ?_
 have hlen:(nI p.ps).length<=140737488351232:=hf0.max
 have hnl:(nI p.ps).length=p.ps.length:=y9 p.ps
 refine sS f40 2 [1,2] [] (fun r=>[bG r 0,vF]) (fun r=>(pO 0 r (dB.row p) 59)) (jX 2) (fun r1=>aC ?_)
 rcases jO (decide (8<(((nI p.ps).length:Nat):Int))) with t1 | t1
 ·refine aY f40 10 [1,2,14] [] [bH r1 0 43,gW (nI p.ps) p.pa p.pc,Cm p.ps,vT,vT,Jz,Jz,Jz,Jz,vT] [] (cR nS<|eU vT (jP t1)<|jX 6) (oY (jJ f40 1 [1,2] [vF] (aG (aB ?_))))
  exact mR (v:=vF) (fun _ hS=>⟨jB (vp_1 (oA (yT t1))),hS.dM⟩)
 refine aY f40 10 [1,2,14] [] [bH r1 0 43,gW (nI p.ps) p.pa p.pc,Cm p.ps,vF,vF,bG r1 0,bW (kY p.k),.bool (wB p.k),.bool (!(wB p.k)),.bool (!(wB p.k))] [] (cR nS<|eU vF (jP t1)<|cR qA<|oO (ksound_any p.k hp.k)<|jX 2) (oC (!(wB p.k)) (fun t2=>?_) (fun t2=>?_))
 ·rw [t2]
  refine jJ f40 1 [1,2] [vF] (aG (aB ?_))
  exact mR (v:=vF) (fun _ hS=>⟨jB (vp_2 (kP t2)),hS.dM⟩)
 rw [t2]
 refine aI (aA (aY f40 8 [1,2,3] [] (let qa:=vi (p.k.d+(((nI p.ps).length:Nat):Int));[bG r1 0,bH r1 0 40,vi p.k.d,bH r1 0 43,gW (nI p.ps) p.pa p.pc,Cm p.ps,qa,qa]) [] (cR [[],[],[0],[],[0],[]]<|FC (p.k.d+(((nI p.ps).length:Nat):Int)) (oB (EP (dI t2)) (yF t1))<|jX 1) (aC (jM f40 2 [1,2,3,23] [] [bH r1 0 44,.bool p.wd] [[],[0]] (oC p.wd (fun t3=>?_) (fun t3=>?_))))))
 ·rw [t3]
  refine lV f40 3 [1,2,3] [] (let qa:=vi (p.k.d+(((nI p.ps).length:Nat):Int)+1);[vi (p.k.d+(((nI p.ps).length:Nat):Int)),qa,qa]) [] (jY 1<|jUc ((p.k.d+(((nI p.ps).length:Nat):Int))+1) (p.k.d+(((nI p.ps).length:Nat):Int)+1) (pY (oB (EP (dI t2)) (yF t1)))<|jX 1) (aA (aC (jJ f40 2 [1,2,27] (let qa:=p.k.d+(((nI p.ps).length:Nat):Int)+1;[vi qa,.bool (decide (8<(p.k.d+(((nI p.ps).length:Nat):Int)+1)))]) (oC (decide (8<(p.k.d+(((nI p.ps).length:Nat):Int)+1))) (fun t4=>?_) (fun t4=>?_)))))
  ·rw [t4]
   refine jJ f40 1 [1,2] [vF] (aG (aB ?_))
   exact mR (v:=vF) (fun _ hS=>⟨jB (vp_3 (by have:=w1_t t3;have:=yF t1;have:=yT t4;omega)),hS.dM⟩)
  rw [t4]
  have:=yF t4
  refine aI (aA (aY f40 4 [1,2,4] [] [bH r1 0 43,gW (nI p.ps) p.pa p.pc,.bool (p.ps.any hdB),.bool (p.ps.any hdB)] [] (cR [[],[0]]<|zW (fun hG=>cofunc_any p.pa p.pc p.ps _ hG.fn.1)<|jX 1) (?_)))
  rcases jO (p.ps.any hdB) with t5 | t5
  ·rw [t5]
   refine aY f40 10 [2] [0] (let qa:JA:=.bool (!decide (p.k.s=0));[vT,vF,vF,bG r1 0,bG r1 0,U p.k.s,U 0,qa,qa,qa]) [] (cR qy236<|cB (a:=fun r=>(U p.k.s)) (b:=fun r=>(U 0)) (v:=fun r=>(.bool (!decide (p.k.s=0)))) .neq 54 (fun _ _=>neqU p.k.s 0 hp.k.s dK _)<|jX 2) (aG ?_)
   exact mR (v:=(.bool (!decide (p.k.s=0)))) (fun _ hS=>⟨jB (show (!decide (p.k.s=0))=dB.vp p from (Jy (p.k.s=0)).elim (fun h0=>by rw [decide_eq_true h0];exact vp_4 t5 h0) (fun h0=>by rw [decide_eq_false h0];exact vp_5 (oA (yF t1)) (dI t2) (oB (w1_t t3) (yF t1)) (Jb h0))),hS.dM⟩)
  rw [t5]
  refine jM f40 10 [2] [0] [vF,vT,vT,Jz,Jz,Jz,Jz,Jz,vT,vT] [[],[],[],[],[],[],[],[],[],[]] (aG ?_)
  exact mR (v:=vT) (fun _ hS=>⟨jB (vp_5 (oA (yF t1)) (dI t2) (oB (w1_t t3) (yF t1)) (Jh t5)),hS.dM⟩)
 rw [t3]
 refine aI (aA (aC (jJ f40 2 [1,2,27] (let qa:=p.k.d+(((nI p.ps).length:Nat):Int);[vi qa,.bool (decide (8<(p.k.d+(((nI p.ps).length:Nat):Int))))]) (oC (decide (8<(p.k.d+(((nI p.ps).length:Nat):Int)))) (fun t6=>?_) (fun t6=>?_)))))
 ·rw [t6]
  refine jJ f40 1 [1,2] [vF] (aG (aB ?_))
  exact mR (v:=vF) (fun _ hS=>⟨jB (vp_3 (by have:=w1_f t3;have:=yF t1;have:=yT t6;omega)),hS.dM⟩)
 rw [t6]
 have:=yF t6
 refine aI (aA (aY f40 4 [1,2,4] [] [bH r1 0 43,gW (nI p.ps) p.pa p.pc,.bool (p.ps.any hdB),.bool (p.ps.any hdB)] [] (cR [[],[0]]<|zW (fun hG=>cofunc_any p.pa p.pc p.ps _ hG.fn.1)<|jX 1) (?_)))
 rcases jO (p.ps.any hdB) with t7 | t7
 ·rw [t7]
  refine aY f40 10 [2] [0] (let qa:JA:=.bool (!decide (p.k.s=0));[vT,vF,vF,bG r1 0,bG r1 0,U p.k.s,U 0,qa,qa,qa]) [] (cR qy236<|cB (a:=fun r=>(U p.k.s)) (b:=fun r=>(U 0)) (v:=fun r=>(.bool (!decide (p.k.s=0)))) .neq 54 (fun _ _=>neqU p.k.s 0 hp.k.s dK _)<|jX 2) (aG ?_)
  exact mR (v:=(.bool (!decide (p.k.s=0)))) (fun _ hS=>⟨jB (show (!decide (p.k.s=0))=dB.vp p from (Jy (p.k.s=0)).elim (fun h0=>by rw [decide_eq_true h0];exact vp_4 t7 h0) (fun h0=>by rw [decide_eq_false h0];exact vp_5 (oA (yF t1)) (dI t2) (oB (w1_f t3) (yF t1)) (Jb h0))),hS.dM⟩)
 rw [t7]
 refine jM f40 10 [2] [0] [vF,vT,vT,Jz,Jz,Jz,Jz,Jz,vT,vT] [[],[],[],[],[],[],[],[],[],[]] (aG ?_)
 exact mR (v:=vT) (fun _ hS=>⟨jB (vp_5 (oA (yF t1)) (dI t2) (oB (w1_f t3) (yF t1)) (Jh t7)),hS.dM⟩)
theorem rdvpath_any (p:dB) (hp:p.Ok) (w0:JB) (hf0:Is w0 .u32 p.pa p.pc (nI p.ps)):Calls prog 35 #[bW (dB.row p)] w0 (jR (.bool (dB.vp p)) w0):=by
 refine Calls.cW 49 (fun w=>Is w .u32 p.pa p.pc (nI p.ps)/\True) func35 rfl rfl rfl (hf0.dW.and iD) ?_
 have hlen:(nI p.ps).length<=140737488351232:=hf0.max
 have hnl:(nI p.ps).length=p.ps.length:=y9 p.ps
 refine sS f35 2 [1,2] [] (fun r=>[bG r 0,vF]) (fun r=>(pO 0 r (dB.row p) 59)) (jX 2) (fun r1=>jM f35 4 [1,2,3] [] [bH r1 0 43,gW (nI p.ps) p.pa p.pc,Cm p.ps,Cm p.ps] Eu (aC (jM f35 2 [1,2,3,9] [] [bH r1 0 44,.bool p.wd] [[],[0]] (oC p.wd (fun b1=>?_) (fun b1=>?_)))))
 ·rw [b1]
  refine lV f35 3 [1,2,3] [] (let qa:=vn ((nI p.ps).length+1);[Cm p.ps,qa,qa]) [] (jY 1<|oD (bF (nI p.ps).length 1 om)<|jX 1) (aA (aC ?_))
  rcases jO (decide (8<(((nI p.ps).length:Nat):Int))) with b2 | b2
  ·refine aY f35 18 [1,2,29] [] [bH r1 0 43,gW (nI p.ps) p.pa p.pc,Cm p.ps,vT,vT,Jz,Jz,Jz,Jz,vT,vT,Jz,Jz,Jz,Jz,Jz,Jz,vT] [] (cR nS<|eU vT (jP b2)<|jX 14) (oY (jJ f35 1 [1,2] [vF] (aG (aB ?_))))
   exact mR (v:=vF) (fun _ hS=>⟨jB (vp_1 (oA (yT b2))),hS.dM⟩)
  rcases jO (wB p.k) with b3 | b3
  ·refine aY f35 18 [1,2,29] [] (let qa:=p.k.d+(((nI p.ps).length+1:Nat):Int);[bH r1 0 43,gW (nI p.ps) p.pa p.pc,Cm p.ps,vF,vF,bG r1 0,bW (kY p.k),vT,vF,vF,vF,bG r1 0,bH r1 0 40,vi p.k.d,vn ((nI p.ps).length+1),vi qa,.bool (decide (8<(p.k.d+(((nI p.ps).length+1:Nat):Int)))),.bool (decide (8<(p.k.d+(((nI p.ps).length+1:Nat):Int))))]) [] (cR nS<|eU vF (jP b2)<|cR qA<|cC (f:=63) (args:=fun r=> #[bW (kY p.k)]) (v:=fun r=>vT) (fun _ w=>by as_aux_lemma=>(have hcall:=(fun w=>Bl p.k hp.k w) w;rw [b3] at hcall;exact hcall))<|cR qy236<|FC (p.k.d+(((nI p.ps).length+1:Nat):Int)) (oB (EP b3) (yF b2))<|jX 2) (oC (decide (8<(p.k.d+(((nI p.ps).length+1:Nat):Int)))) (fun b4=>?_) (fun b4=>?_))
   ·rw [b4]
    refine jJ f35 1 [1,2] [vF] (aG (aB ?_))
    exact mR (v:=vF) (fun _ hS=>⟨jB (vp_3 (by have:=w1_t b1;have:=yF b2;have:=yT b4;omega)),hS.dM⟩)
   rw [b4]
   have:=yF b4
   refine aI (aA (aC (jJ f35 1 [1,2,4] [vi 0] (aJ ?_))))
   refine oL (σ:=Nat) (fun i=>[(1,(bG r1 0)),(4,(vn i))]) (fun _=>[(nb r1 0,(iJ (dB.row p)))]) (fun i=>(nI p.ps).length-i)
    (fun i=>(i<=(nI p.ps).length)/\((p.ps.drop i).any p.hf=p.ps.any p.hf)) 0 (⟨IU _,rfl⟩) [] ?_
   rintro i ⟨hi,hr⟩
   refine aC (jM f35 5 [1,4,34] [] [vn i,bH r1 0 43,gW (nI p.ps) p.pa p.pc,Cm p.ps,.bool (decide ((i:Int)<(((nI p.ps).length:Nat):Int)))] [[],[],[0],[],[]] (oC (decide ((i:Int)<(((nI p.ps).length:Nat):Int))) (fun b5=>?_) (fun b5=>?_)))
   ·rw [b5]
    have:=yT b5
    refine aI (aA (aC (aJ ?_)))
    rcases jO (decide (2147483648<=((p.ps.getD i 0:Nat):Int))) with b6 | b6
    ·refine aY f35 12 [1,4,48] [] (let qa:JA:=.bool (decide (p.k.s=0));[bH r1 0 43,gW (nI p.ps) p.pa p.pc,vn i,tY p.pa i,vu (p.ps.getD i 0),vT,vT,bG r1 0,bG r1 0,U p.k.s,qa,qa]) [] (cR nS<|nM (fun hG=>vO (k:=.i64) underlying57 sizeOf45 hG.fn.1 rfl (show (i:Int)=(i:Int) from rfl) (show i<(nI p.ps).length from (oB (yF b2) (yT b6))))<|nM (v:=fun r=>(vu (p.ps.getD i 0))) (fun hG=>(yL isAgg45 hG.fn.1 (show i<(nI p.ps).length from (oB (yF b2) (yT b6)))).trans (by rw [FZ]))<|eU vT (jP b6)<|cR x8<|cC (fun _ w=>o9 p.k.s w hp.k.s)<|jX 1) (oC (decide (p.k.s=0)) (fun b7=>?_) (fun b7=>?_))
     ·rw [b7]
      refine jJ f35 1 [1,2,4] [vF] (aG (aQ (aB (aB (aQ (aB ?_))))))
      exact mR (v:=vF) (fun _ hS=>⟨jB (vp_6 (pa_stop (f:=p.hf) (by have:=yF b2;have:=yT b6;have:=yT b7;omega) (hf_c b6 b7) hr)),hS.dM⟩)
     rw [b7]
     have:=yF b7
     refine aI (aH (aA (lV f35 3 [1,4] [] [vn i,vn (i+1),vn (i+1)] [] (jY 1<|oD (bF i 1 (oB (yF b2) (yT b6)))<|jX 1) (?_))))
     exact mN (i+1) (by show (nI p.ps).length-(i+1)<(nI p.ps).length-i;have:=yF b2;have:=yT b6;omega) (⟨(oB (yF b2) (yT b6)),pa_next (f:=p.hf) (oB (yF b2) (yT b6)) (hf_b b7) hr⟩) []
    refine aY f35 12 [1,4,48] [] [bH r1 0 43,gW (nI p.ps) p.pa p.pc,vn i,tY p.pa i,vu (p.ps.getD i 0),vF,vF,Jz,Jz,Jz,Jz,vF] [] (cR nS<|nM (fun hG=>vO (k:=.i64) underlying57 sizeOf45 hG.fn.1 rfl (show (i:Int)=(i:Int) from rfl) (show i<(nI p.ps).length from (oB (yF b2) (yF b6))))<|nM (v:=fun r=>(vu (p.ps.getD i 0))) (fun hG=>(yL isAgg45 hG.fn.1 (show i<(nI p.ps).length from (oB (yF b2) (yF b6)))).trans (by rw [FZ]))<|eU vF (jP b6)<|jX 6) (oN (aI (aH (aA (lV f35 3 [1,4] [] [vn i,vn (i+1),vn (i+1)] [] (jY 1<|oD (bF i 1 (oB (yF b2) (yF b6)))<|jX 1) (?_))))))
    exact mN (i+1) (by show (nI p.ps).length-(i+1)<(nI p.ps).length-i;have:=yF b2;have:=yF b6;omega) (⟨(oB (yF b2) (yF b6)),pa_next (f:=p.hf) (oB (yF b2) (yF b6)) (hf_a b6) hr⟩) []
   rw [b5]
   have:=yF b5
   refine bC (aF (aF (aO (aA (jM f35 1 [2] [0] [vT] [[]] (aG ?_))))))
   exact mR (v:=vT) (fun _ hS=>⟨jB (vp_5 (oA (yF b2)) b3 (oB (w1_t b1) (yF b2)) (vp_7 (all_endN (oA (yF b2)) hr))),hS.dM⟩)
  refine aY f35 18 [1,2,29] [] [bH r1 0 43,gW (nI p.ps) p.pa p.pc,Cm p.ps,vF,vF,bG r1 0,bW (kY p.k),vF,vT,vT,vT,Jz,Jz,Jz,Jz,Jz,Jz,vT] [] (cR nS<|eU vF (jP b2)<|cR qA<|cC (f:=63) (args:=fun r=> #[bW (kY p.k)]) (v:=fun r=>vF) (fun _ w=>by as_aux_lemma=>(have hcall:=(fun w=>Bl p.k hp.k w) w;rw [b3] at hcall;exact hcall))<|jX 10) (oY (jJ f35 1 [1,2] [vF] (aG (aB ?_))))
  exact mR (v:=vF) (fun _ hS=>⟨jB (vp_2 b3),hS.dM⟩)
 rw [b1]
 refine aI (aA (aC ?_))
 rcases jO (decide (8<(((nI p.ps).length:Nat):Int))) with b8 | b8
 ·refine aY f35 18 [1,2,29] [] [bH r1 0 43,gW (nI p.ps) p.pa p.pc,Cm p.ps,vT,vT,Jz,Jz,Jz,Jz,vT,vT,Jz,Jz,Jz,Jz,Jz,Jz,vT] [] (cR nS<|eU vT (jP b8)<|jX 14) (oY (jJ f35 1 [1,2] [vF] (aG (aB ?_))))
  exact mR (v:=vF) (fun _ hS=>⟨jB (vp_1 (oA (yT b8))),hS.dM⟩)
 rcases jO (wB p.k) with b9 | b9
 ·refine aY f35 18 [1,2,29] [] (let qa:=p.k.d+(((nI p.ps).length:Nat):Int);[bH r1 0 43,gW (nI p.ps) p.pa p.pc,Cm p.ps,vF,vF,bG r1 0,bW (kY p.k),vT,vF,vF,vF,bG r1 0,bH r1 0 40,vi p.k.d,Cm p.ps,vi qa,.bool (decide (8<(p.k.d+(((nI p.ps).length:Nat):Int)))),.bool (decide (8<(p.k.d+(((nI p.ps).length:Nat):Int))))]) [] (cR nS<|eU vF (jP b8)<|cR qA<|cC (f:=63) (args:=fun r=> #[bW (kY p.k)]) (v:=fun r=>vT) (fun _ w=>by as_aux_lemma=>(have hcall:=(fun w=>Bl p.k hp.k w) w;rw [b9] at hcall;exact hcall))<|cR qy236<|FC (p.k.d+(((nI p.ps).length:Nat):Int)) (oB (EP b9) (yF b8))<|jX 2) (oC (decide (8<(p.k.d+(((nI p.ps).length:Nat):Int)))) (fun b10=>?_) (fun b10=>?_))
  ·rw [b10]
   refine jJ f35 1 [1,2] [vF] (aG (aB ?_))
   exact mR (v:=vF) (fun _ hS=>⟨jB (vp_3 (by have:=w1_f b1;have:=yF b8;have:=yT b10;omega)),hS.dM⟩)
  rw [b10]
  have:=yF b10
  refine aI (aA (aC (jJ f35 1 [1,2,4] [vi 0] (aJ ?_))))
  refine oL (σ:=Nat) (fun i=>[(1,(bG r1 0)),(4,(vn i))]) (fun _=>[(nb r1 0,(iJ (dB.row p)))]) (fun i=>(nI p.ps).length-i)
   (fun i=>(i<=(nI p.ps).length)/\((p.ps.drop i).any p.hf=p.ps.any p.hf)) 0 (⟨IU _,rfl⟩) [] ?_
  rintro i ⟨hi,hr⟩
  refine aC (jM f35 5 [1,4,34] [] [vn i,bH r1 0 43,gW (nI p.ps) p.pa p.pc,Cm p.ps,.bool (decide ((i:Int)<(((nI p.ps).length:Nat):Int)))] [[],[],[0],[],[]] (oC (decide ((i:Int)<(((nI p.ps).length:Nat):Int))) (fun b11=>?_) (fun b11=>?_)))
  ·rw [b11]
   have:=yT b11
   refine aI (aA (aC (aJ ?_)))
   rcases jO (decide (2147483648<=((p.ps.getD i 0:Nat):Int))) with b12 | b12
   ·refine aY f35 12 [1,4,48] [] (let qa:JA:=.bool (decide (p.k.s=0));[bH r1 0 43,gW (nI p.ps) p.pa p.pc,vn i,tY p.pa i,vu (p.ps.getD i 0),vT,vT,bG r1 0,bG r1 0,U p.k.s,qa,qa]) [] (cR nS<|nM (fun hG=>vO (k:=.i64) underlying57 sizeOf45 hG.fn.1 rfl (show (i:Int)=(i:Int) from rfl) (show i<(nI p.ps).length from (oB (yF b8) (yT b12))))<|nM (v:=fun r=>(vu (p.ps.getD i 0))) (fun hG=>(yL isAgg45 hG.fn.1 (show i<(nI p.ps).length from (oB (yF b8) (yT b12)))).trans (by rw [FZ]))<|eU vT (jP b12)<|cR x8<|cC (fun _ w=>o9 p.k.s w hp.k.s)<|jX 1) (oC (decide (p.k.s=0)) (fun b13=>?_) (fun b13=>?_))
    ·rw [b13]
     refine jJ f35 1 [1,2,4] [vF] (aG (aQ (aB (aB (aQ (aB ?_))))))
     exact mR (v:=vF) (fun _ hS=>⟨jB (vp_6 (pa_stop (f:=p.hf) (by have:=yF b8;have:=yT b12;have:=yT b13;omega) (hf_c b12 b13) hr)),hS.dM⟩)
    rw [b13]
    have:=yF b13
    refine aI (aH (aA (lV f35 3 [1,4] [] [vn i,vn (i+1),vn (i+1)] [] (jY 1<|oD (bF i 1 (oB (yF b8) (yT b12)))<|jX 1) (?_))))
    exact mN (i+1) (by show (nI p.ps).length-(i+1)<(nI p.ps).length-i;have:=yF b8;have:=yT b12;omega) (⟨(oB (yF b8) (yT b12)),pa_next (f:=p.hf) (oB (yF b8) (yT b12)) (hf_b b13) hr⟩) []
   refine aY f35 12 [1,4,48] [] [bH r1 0 43,gW (nI p.ps) p.pa p.pc,vn i,tY p.pa i,vu (p.ps.getD i 0),vF,vF,Jz,Jz,Jz,Jz,vF] [] (cR nS<|nM (fun hG=>vO (k:=.i64) underlying57 sizeOf45 hG.fn.1 rfl (show (i:Int)=(i:Int) from rfl) (show i<(nI p.ps).length from (oB (yF b8) (yF b12))))<|nM (v:=fun r=>(vu (p.ps.getD i 0))) (fun hG=>(yL isAgg45 hG.fn.1 (show i<(nI p.ps).length from (oB (yF b8) (yF b12)))).trans (by rw [FZ]))<|eU vF (jP b12)<|jX 6) (oN (aI (aH (aA (lV f35 3 [1,4] [] [vn i,vn (i+1),vn (i+1)] [] (jY 1<|oD (bF i 1 (oB (yF b8) (yF b12)))<|jX 1) (?_))))))
   exact mN (i+1) (by show (nI p.ps).length-(i+1)<(nI p.ps).length-i;have:=yF b8;have:=yF b12;omega) (⟨(oB (yF b8) (yF b12)),pa_next (f:=p.hf) (oB (yF b8) (yF b12)) (hf_a b12) hr⟩) []
  rw [b11]
  have:=yF b11
  refine bC (aF (aF (aO (aA (jM f35 1 [2] [0] [vT] [[]] (aG ?_))))))
  exact mR (v:=vT) (fun _ hS=>⟨jB (vp_5 (oA (yF b8)) b9 (oB (w1_f b1) (yF b8)) (vp_7 (all_endN (oA (yF b8)) hr))),hS.dM⟩)
 refine aY f35 18 [1,2,29] [] [bH r1 0 43,gW (nI p.ps) p.pa p.pc,Cm p.ps,vF,vF,bG r1 0,bW (kY p.k),vF,vT,vT,vT,Jz,Jz,Jz,Jz,Jz,Jz,vT] [] (cR nS<|eU vF (jP b8)<|cR qA<|cC (f:=63) (args:=fun r=> #[bW (kY p.k)]) (v:=fun r=>vF) (fun _ w=>by as_aux_lemma=>(have hcall:=(fun w=>Bl p.k hp.k w) w;rw [b9] at hcall;exact hcall))<|jX 10) (oY (jJ f35 1 [1,2] [vF] (aG (aB ?_))))
 exact mR (v:=vF) (fun _ hS=>⟨jB (vp_2 b9),hS.dM⟩)
abbrev wC:=vV 0 0 0 0 0 0 vz vF
abbrev qy206:=fun p0 p1=>vn (gT p0 p1).ks.length
theorem dvalid_any (a:OA) (c:Nat) (ts:List aX) (w0:JB) (hf0:iF w0 a c ts):Calls prog 24 #[aW a ts.length c] w0 (jR (.bool (xJ ts)) w0):=by
 refine Calls.cW 50 (fun w=>iF w a c ts/\True) func24 rfl rfl rfl (hf0.dW.and iD) ?_
 have hlen:ts.length<=1000000:=hf0.max
 have ho:qZ ts:=hf0.oks
 refine jJ f24 1 [0,2] [vF] (aC ?_)
 rcases jO (decide ((ts.length:Int)<1)) with b1 | b1
 ·refine aY f24 13 [0,2,21] [] [aW a ts.length c,vn ts.length,vT,vT,Jz,Jz,Jz,vT,vT,Jz,Jz,Jz,vT] [] (jY 2<|eU vT (jP b1)<|jX 10) (oY (jJ f24 1 [0,2] [vF] (aG (aB ?_))))
  exact mR (v:=vF) (fun _ hS=>⟨jB (vl_a (oA (yT b1))),hS.dM⟩)
 rcases jO (decide (8<(ts.length:Int))) with b2 | b2
 ·refine aY f24 13 [0,2,21] [] [aW a ts.length c,vn ts.length,vF,vF,aW a ts.length c,vn ts.length,vT,vT,vT,Jz,Jz,Jz,vT] [] (jY 2<|eU vF (jP b1)<|jY 3<|eU vT (jP b2)<|jX 6) (oY (jJ f24 1 [0,2] [vF] (aG (aB ?_))))
  exact mR (v:=vF) (fun _ hS=>⟨jB (vl_a (oB (yF b1) (yT b2))),hS.dM⟩)
 refine aY f24 13 [0,2,21] [] [aW a ts.length c,vn ts.length,vF,vF,aW a ts.length c,vn ts.length,vF,vF,vF,aW a ts.length c,.bool (zC 1 ts),.bool (!(zC 1 ts)),.bool (!(zC 1 ts))] [] (jY 2<|eU vF (jP b1)<|jY 3<|eU vF (jP b2)<|jY 3<|zW (fun hG=>dwhole_any a c ts _ hG.fn.1)<|jX 2) (oC (!(zC 1 ts)) (fun b3=>?_) (fun b3=>?_))
 ·rw [b3]
  refine jJ f24 1 [0,2] [vF] (aG (aB ?_))
  exact mR (v:=vF) (fun _ hS=>⟨jB (vl_b (kP b3)),hS.dM⟩)
 rw [b3]
 refine aI (aA (aC (jJ f24 3 [0,2,22,23,24] [aW a ts.length c,vn ts.length,vi 0] (aJ ?_))))
 refine oL (σ:=Nat) (fun i=>[(0,(aW a ts.length c)),(22,(aW a ts.length c)),(23,(vn ts.length)),(24,(vn i))]) eN (fun i=>ts.length-i)
  (fun i=>(i<=ts.length)/\((ts.drop i).all aX.fd=ts.all aX.fd)) 0 (⟨IU _,rfl⟩) [] ?_
 rintro i ⟨hi,hA⟩
 refine jJ f24 1 [0,22,23,24,25] [.bool (decide ((i:Int)<(ts.length:Int)))] (aC (oC (decide ((i:Int)<(ts.length:Int))) (fun b4=>?_) (fun b4=>?_)))
 ·rw [b4]
  have:=yT b4
  have zh1:i<ts.length:=(oB (yF b1) (yF b2))
  refine aI (aA (aC (aJ (sS f24 4 [0,4,22,23,24] [] (fun r=>[tY a (i*36),BB (gT ts i),bG r 2,Jz]) (fun r=>(BH 2 r 50 3 16 (aX.row (gT ts i)))) (nM (fun hG=>iF.idx (k:=.i64) underlying24 sizeOf50 hG.fn.1 rfl (show (i:Int)=(i:Int) from rfl) zh1)<|nM (fun hG=>iF.ldA (i:=i) isAgg50 sizeOf50 hG.fn.1 zh1)<|jE [[],[16]]) (fun _=>aY f24 3 [0,22,23,24,30] [0] (let qa:=fdN (gT ts i).kd (gT ts i).m (gT ts i).nu (gT ts i).h (gT ts i).ks.length;[BB (gT ts i),.bool (fdN (gT ts i).kd (gT ts i).m (gT ts i).nu (gT ts i).h (gT ts i).ks.length),.bool (!(fdN (gT ts i).kd (gT ts i).m (gT ts i).nu (gT ts i).h (gT ts i).ks.length))]) [] (cR [[0]]<|oO (dfields_any (gT ts i).kd (gT ts i).m (gT ts i).nu (gT ts i).h (gT ts i).ka (gT ts i).kc (gT ts i).ks (ho.gT i).h)<|jX 1) (oC (!(fdN (gT ts i).kd (gT ts i).m (gT ts i).nu (gT ts i).h (gT ts i).ks.length)) (fun b5=>?_) (fun b5=>?_)))))))
  ·rw [b5]
   refine jJ f24 1 [0,2,22,23,24] [vF] (aG (aQ (aB (aB (aQ (aB ?_))))))
   exact mR (v:=vF) (fun _ hS=>⟨jB (vl_c (BZ (f:=aX.fd) (l:=ts) (oB (yF b1) (yF b2)) (kP b5) hA)),hS.dM⟩)
  rw [b5]
  refine aI (aH (aA (lV f24 2 [0,22,23,24] [] [vn (i+1),vn (i+1)] [] (oD (bF i 1 (oB (yF b1) (yF b2)))<|jX 1) (?_))))
  exact mN (i+1) (by show ts.length-(i+1)<ts.length-i;have:=yF b1;have:=yF b2;omega) (⟨(oB (yF b1) (yF b2)),Ce (f:=aX.fd) (l:=ts) (oB (yF b1) (yF b2)) (dI b5) hA⟩) []
 rw [b4]
 have:=yF b4
 refine bC (aF (aF (aO (aA (aC (jJ f24 3 [32,33,34] [aW a ts.length c,vn ts.length,vi 0] (aJ ?_)))))))
 refine oL (σ:=Nat) (fun i2=>[(32,(aW a ts.length c)),(33,(vn ts.length)),(34,(vn i2))]) eN (fun i2=>ts.length-i2)
  (fun i2=>(i2<=ts.length)/\((ts.drop i2).all aX.vk=ts.all aX.vk)) 0 (⟨IU _,rfl⟩) [] ?_
 rintro i2 ⟨hi2,hB⟩
 refine jJ f24 1 [32,33,34,35] [.bool (decide ((i2:Int)<(ts.length:Int)))] (aC (oC (decide ((i2:Int)<(ts.length:Int))) (fun b6=>?_) (fun b6=>?_)))
 ·rw [b6]
  have:=yT b6
  have zh2:i2<ts.length:=(oB (yF b1) (yF b2))
  refine aI (aA (aC (aJ (sS f24 4 [6,32,33,34] [] (fun r=>[tY a (i2*36),BB (gT ts i2),bG r 2,Jz]) (fun r=>(BH 2 r 50 3 16 (aX.row (gT ts i2)))) (nM (fun hG=>iF.idx (k:=.i64) underlying24 sizeOf50 hG.fn.1 rfl (show (i2:Int)=(i2:Int) from rfl) zh2)<|nM (fun hG=>iF.ldA (i:=i2) isAgg50 sizeOf50 hG.fn.1 zh2)<|jE [[],[16]]) (fun r16=>jM f24 4 [32,33,34,39,40,41] [0] [bH r16 2 35,.slice (gT ts i2).ka (gT ts i2).ks.length (gT ts i2).kc,qy206 ts i2,vi 0] Eu (aJ ?_))))))
  refine oL (σ:=Nat) (fun k=>[(32,(aW a ts.length c)),(33,(vn ts.length)),(34,(vn i2)),(39,(.slice (gT ts i2).ka (gT ts i2).ks.length (gT ts i2).kc)),(40,(qy206 ts i2)),(41,(vn k))]) eN (fun k=>(gT ts i2).ks.length-k)
   (fun k=>(k<=(gT ts i2).ks.length)/\(((gT ts i2).ks.drop k).all dB.vp=(gT ts i2).ks.all dB.vp)) 0 (⟨IU _,rfl⟩) [] ?_
  rintro k ⟨hk,hC⟩
  have hkl:(gT ts i2).ks.length<=1000000:=ho.klen hf0 i2
  refine jJ f24 1 [32,33,34,39,40,41,42] [.bool (decide ((k:Int)<(((gT ts i2).ks.length:Nat):Int)))] (aC (oC (decide ((k:Int)<(((gT ts i2).ks.length:Nat):Int))) (fun b7=>?_) (fun b7=>?_)))
  ·rw [b7]
   have:=yT b7
   have zh3:k<(gT ts i2).ks.length:=(oB (yF b1) (yF b2))
   refine aI (aA (aC (aJ (sS f24 4 [8,32,33,34,39,40,41] [] (fun r=>[pX (zM (gT ts i2).ka (k*45)),bW (dB.row (gK (gT ts i2).ks k)),bG r 2,Jz]) (fun r=>[(2,(fB r 2 wC 59)),(3,(jD 16 r 2 (dB.row (gK (gT ts i2).ks k)) 59))]) (nM (fun hG=>wX.idx (k:=.i64) underlying48 sizeOf59 (hG.fn.1.sub _ (fH zh2)) rfl (show (k:Int)=(k:Int) from rfl) zh3)<|nM (fun hG=>wX.ldA (i:=k) isAgg59 sizeOf59 (hG.fn.1.sub _ (fH zh2)) zh3)<|jE [[],[16]]) (fun _=>aY f24 3 [32,33,34,39,40,41,47] [0] [bW (dB.row (gK (gT ts i2).ks k)),.bool (dB.vp (gK (gT ts i2).ks k)),.bool (!(dB.vp (gK (gT ts i2).ks k)))] [] (cR [[0]]<|zW (fun hG=>dvpath_any (gK (gT ts i2).ks k) (ho.gK i2 k) _ ((hG.fn.1.sub _ (fH zh2)).sub _ (mO zh3)))<|jX 1) (oC (!(dB.vp (gK (gT ts i2).ks k))) (fun b8=>?_) (fun b8=>?_)))))))
   ·rw [b8]
    refine jJ f24 1 [2,32,33,34,39,40,41] [vF] (aG (aQ (aB (aB (aQ (aQ (aB (aB (aQ (aB ?_))))))))))
    exact mR (v:=vF) (fun _ hS=>⟨jB (vl_d (BZ (f:=aX.vk) (l:=ts) (oB (yF b1) (yF b2)) (BZ (f:=dB.vp) (l:=(gT ts i2).ks) (oB (yF b1) (yF b2)) (kP b8) hC) hB)),hS.dM⟩)
   rw [b8]
   refine aI (aH (aA (lV f24 2 [32,33,34,39,40,41] [] [vn (k+1),vn (k+1)] [] (oD (bF k 1 (oB (yF b1) (yF b2)))<|jX 1) (?_))))
   exact mN (k+1) (by show (gT ts i2).ks.length-(k+1)<(gT ts i2).ks.length-k;have:=yF b1;have:=yF b2;omega) (⟨(oB (yF b1) (yF b2)),Ce (f:=dB.vp) (l:=(gT ts i2).ks) (oB (yF b1) (yF b2)) (dI b8) hC⟩) []
  rw [b7]
  have:=yF b7
  refine bC (aF (aF (aO (aH (aA (lV f24 2 [32,33,34] [] [vn (i2+1),vn (i2+1)] [] (oD (bF i2 1 (oB (yF b1) (yF b2)))<|jX 1) (?_)))))))
  exact mN (i2+1) (by show ts.length-(i2+1)<ts.length-i2;have:=yF b1;have:=yF b2;omega) (⟨(oB (yF b1) (yF b2)),Ce (f:=aX.vk) (l:=ts) (oB (yF b1) (yF b2)) (EM (f:=dB.vp) (l:=(gT ts i2).ks) (oB (yF b1) (yF b2)) hC) hB⟩) []
 rw [b6]
 have:=yF b6
 refine bC (aF (aF (aO (aA (jJ f24 1 [2] [vT] (aG ?_))))))
 exact mR (v:=vT) (fun _ hS=>⟨jB (vl_e (oB (yF b1) (yF b2)) (dI b3) (EM (f:=aX.fd) (l:=ts) (oB (yF b1) (yF b2)) hA) (EM (f:=aX.vk) (l:=ts) (oB (yF b1) (yF b2)) hB)),hS.dM⟩)
theorem rdvalid_any (a:OA) (c:Nat) (ts:List aX) (w0:JB) (hf0:iF w0 a c ts):Calls prog 18 #[aW a ts.length c] w0 (jR (.bool (xJ ts)) w0):=by
 refine Calls.cW 47 (fun w=>iF w a c ts/\True) func18 rfl rfl rfl (hf0.dW.and iD) ?_
 have hlen:ts.length<=1000000:=hf0.max
 have ho:qZ ts:=hf0.oks
 refine jJ f18 1 [0,2] [vF] (aC (aY f18 3 [0,2,8] [] [aW a ts.length c,.bool (shB ts),.bool (!(shB ts))] [] (jY 1<|zW (fun hG=>rdshaped_any a c ts _ hG.fn.1)<|jX 1) (oC (!(shB ts)) (fun b1=>?_) (fun b1=>?_))))
 ·rw [b1]
  refine jJ f18 1 [0,2] [vF] (aG (aB ?_))
  exact mR (v:=vF) (fun _ hS=>⟨jB (sh_no (kP b1)),hS.dM⟩)
 rw [b1]
 refine aI (aA (aC (jJ f18 1 [0,2,3] [vi 0] (aJ ?_))))
 refine oL (σ:=Nat) (fun i=>[(0,(aW a ts.length c)),(3,(vn i))]) eN (fun i=>ts.length-i)
  (fun i=>(i<=ts.length)/\((ts.drop i).all aX.fd=ts.all aX.fd)) 0 (⟨IU _,rfl⟩) [] ?_
 rintro i ⟨hi,hA⟩
 refine aC (jJ f18 4 [0,3,12] [vn i,aW a ts.length c,vn ts.length,.bool (decide ((i:Int)<(ts.length:Int)))] (oC (decide ((i:Int)<(ts.length:Int))) (fun b2=>?_) (fun b2=>?_)))
 ·rw [b2]
  have:=yT b2
  have zh1:i<ts.length:=om
  refine aI (aA (aC (aJ (aY f18 6 [0,3,20] [] (let qa:=fdN (gT ts i).kd (gT ts i).m (gT ts i).nu (gT ts i).h (gT ts i).ks.length;[aW a ts.length c,vn i,tY a (i*36),BB (gT ts i),.bool (fdN (gT ts i).kd (gT ts i).m (gT ts i).nu (gT ts i).h (gT ts i).ks.length),.bool (!(fdN (gT ts i).kd (gT ts i).m (gT ts i).nu (gT ts i).h (gT ts i).ks.length))]) [] (jY 2<|nM (fun hG=>iF.idx (k:=.i64) underlying24 sizeOf50 hG.fn.1 rfl (show (i:Int)=(i:Int) from rfl) zh1)<|nM (fun hG=>iF.ldA (i:=i) isAgg50 sizeOf50 hG.fn.1 zh1)<|oO (rdfields_any (gT ts i).kd (gT ts i).m (gT ts i).nu (gT ts i).h (gT ts i).ka (gT ts i).kc (gT ts i).ks (ho.gT i).h)<|jX 1) (oC (!(fdN (gT ts i).kd (gT ts i).m (gT ts i).nu (gT ts i).h (gT ts i).ks.length)) (fun b3=>?_) (fun b3=>?_))))))
  ·rw [b3]
   refine jJ f18 1 [0,2,3] [vF] (aG (aQ (aB (aB (aQ (aB ?_))))))
   exact mR (v:=vF) (fun _ hS=>⟨jB (vl_c (BZ (f:=aX.fd) (l:=ts) om (kP b3) hA)),hS.dM⟩)
  rw [b3]
  refine aI (aH (aA (lV f18 3 [0,3] [] [vn i,vn (i+1),vn (i+1)] [] (jY 1<|oD (bF i 1 om)<|jX 1) (?_))))
  exact mN (i+1) (by show ts.length-(i+1)<ts.length-i;omega) (⟨om,Ce (f:=aX.fd) (l:=ts) om (dI b3) hA⟩) []
 rw [b2]
 have:=yF b2
 refine bC (aF (aF (aO (aA (aC (jJ f18 1 [0,4] [vi 0] (aJ ?_)))))))
 refine oL (σ:=Nat) (fun i2=>[(0,(aW a ts.length c)),(4,(vn i2))]) eN (fun i2=>ts.length-i2)
  (fun i2=>(i2<=ts.length)/\((ts.drop i2).all aX.vk=ts.all aX.vk)) 0 (⟨IU _,rfl⟩) [] ?_
 rintro i2 ⟨hi2,hB⟩
 refine aC (jJ f18 4 [0,4,24] [vn i2,aW a ts.length c,vn ts.length,.bool (decide ((i2:Int)<(ts.length:Int)))] (oC (decide ((i2:Int)<(ts.length:Int))) (fun b4=>?_) (fun b4=>?_)))
 ·rw [b4]
  have:=yT b4
  refine aI (aA (aC (aJ (jJ f18 1 [0,4,5] [vi 0] (aJ ?_)))))
  refine oL (σ:=Nat) (fun k=>[(0,(aW a ts.length c)),(4,(vn i2)),(5,(vn k))]) eN (fun k=>(gT ts i2).ks.length-k)
   (fun k=>(k<=(gT ts i2).ks.length)/\(((gT ts i2).ks.drop k).all dB.vp=(gT ts i2).ks.all dB.vp)) 0 (⟨IU _,rfl⟩) [] ?_
  rintro k ⟨hk,hC⟩
  have hkl:(gT ts i2).ks.length<=1000000:=ho.klen hf0 i2
  refine aC (aY f18 8 [0,4,5,34] [] [vn k,aW a ts.length c,vn i2,tY a (i2*36),tY a (i2*36+35),.slice (gT ts i2).ka (gT ts i2).ks.length (gT ts i2).kc,qy206 ts i2,.bool (decide ((k:Int)<(((gT ts i2).ks.length:Nat):Int)))] [] (jY 3<|nM (fun hG=>iF.idx (k:=.i64) underlying24 sizeOf50 hG.fn.1 rfl (show (i2:Int)=(i2:Int) from rfl) (show i2<ts.length from om))<|cX (jF (fun _=>Jp 50 (tY a (i2*36)) 4) (fun _=>(tY a (i2*36+35))) (fun _ _ _ hG=>fld_rs (o:=35) (k:=i2*36) underlying50 rfl rfl rfl sizeOf48 (hG.fn.1.pos (show i2<ts.length from om)).1 (hG.fn.1.pos (show i2<ts.length from om)).2) (fun _ _ _ _=>iD))<|nM (fun hG=>iF.ld (v:=(.slice (gT ts i2).ka (gT ts i2).ks.length (gT ts i2).kc)) (i:=i2) (j:=35) isAgg48 hG.fn.1 (show i2<ts.length from om) dC kr)<|jX 2) (oC (decide ((k:Int)<(((gT ts i2).ks.length:Nat):Int))) (fun b5=>?_) (fun b5=>?_)))
  ·rw [b5]
   have:=yT b5
   have zh2:k<(gT ts i2).ks.length:=om
   have zh3:i2<ts.length:=om
   refine aI (aA (aC (aJ (aY f18 10 [0,4,5,46] [] [aW a ts.length c,vn i2,tY a (i2*36),tY a (i2*36+35),.slice (gT ts i2).ka (gT ts i2).ks.length (gT ts i2).kc,vn k,pX (zM (gT ts i2).ka (k*45)),bW (dB.row (gK (gT ts i2).ks k)),.bool (dB.vp (gK (gT ts i2).ks k)),.bool (!(dB.vp (gK (gT ts i2).ks k)))] [] (jY 2<|nM (fun hG=>iF.idx (k:=.i64) underlying24 sizeOf50 hG.fn.1 rfl (show (i2:Int)=(i2:Int) from rfl) zh3)<|cX (jF (fun _=>Jp 50 (tY a (i2*36)) 4) (fun _=>(tY a (i2*36+35))) (fun _ _ _ hG=>fld_rs (o:=35) (k:=i2*36) underlying50 rfl rfl rfl sizeOf48 (hG.fn.1.pos zh3).1 (hG.fn.1.pos zh3).2) (fun _ _ _ _=>iD))<|nM (fun hG=>iF.ld (v:=(.slice (gT ts i2).ka (gT ts i2).ks.length (gT ts i2).kc)) (i:=i2) (j:=35) isAgg48 hG.fn.1 zh3 dC kr)<|jY 1<|nM (fun hG=>wX.idx (k:=.i64) underlying48 sizeOf59 (hG.fn.1.sub _ (fH zh3)) rfl (show (k:Int)=(k:Int) from rfl) zh2)<|nM (fun hG=>wX.ldA (i:=k) isAgg59 sizeOf59 (hG.fn.1.sub _ (fH zh3)) zh2)<|zW (fun hG=>rdvpath_any (gK (gT ts i2).ks k) (ho.gK i2 k) _ ((hG.fn.1.sub _ (fH zh3)).sub _ (mO zh2)))<|jX 1) (oC (!(dB.vp (gK (gT ts i2).ks k))) (fun b6=>?_) (fun b6=>?_))))))
   ·rw [b6]
    refine jJ f18 1 [0,2,4,5] [vF] (aG (aQ (aB (aB (aQ (aQ (aB (aB (aQ (aB ?_))))))))))
    exact mR (v:=vF) (fun _ hS=>⟨jB (vl_d (BZ (f:=aX.vk) (l:=ts) om (BZ (f:=dB.vp) (l:=(gT ts i2).ks) om (kP b6) hC) hB)),hS.dM⟩)
   rw [b6]
   refine aI (aH (aA (lV f18 3 [0,4,5] [] [vn k,vn (k+1),vn (k+1)] [] (jY 1<|oD (bF k 1 om)<|jX 1) (?_))))
   exact mN (k+1) (by show (gT ts i2).ks.length-(k+1)<(gT ts i2).ks.length-k;omega) (⟨om,Ce (f:=dB.vp) (l:=(gT ts i2).ks) om (dI b6) hC⟩) []
  rw [b5]
  have:=yF b5
  refine bC (aF (aF (aO (aH (aA (lV f18 3 [0,4] [] [vn i2,vn (i2+1),vn (i2+1)] [] (jY 1<|oD (bF i2 1 om)<|jX 1) (?_)))))))
  exact mN (i2+1) (by show ts.length-(i2+1)<ts.length-i2;omega) (⟨om,Ce (f:=aX.vk) (l:=ts) om (EM (f:=dB.vp) (l:=(gT ts i2).ks) om hC) hB⟩) []
 rw [b4]
 refine bC (aF (aF (aO (aA (jJ f18 1 [2] [vT] (aG ?_))))))
 exact mR (v:=vT) (fun _ hS=>⟨jB (vl_e (sh_yes (dI b1)).1 (sh_yes (dI b1)).2 (EM (f:=aX.fd) (l:=ts) (oA (yF b4)) hA) (EM (f:=aX.vk) (l:=ts) (oA (yF b4)) hB)),hS.dM⟩)
section
open Go Go.Shelf Go.RowKit Go.Lib
theorem laysM171:Go.Proofs.LaysM.n171 prog lays171_ren:={ lays171 with
 i0:=by kernel_rfl
 i2:=by kernel_rfl
 i3:=by kernel_rfl
 i4:=by kernel_rfl
 i5:=by kernel_rfl
 i9:=by kernel_rfl
 i20:=by kernel_rfl
 i37:=by kernel_rfl
 i46:=by kernel_rfl
 i51:=by kernel_rfl
 i53:=by kernel_rfl
 i171:=by kernel_rfl
 i173:=by kernel_rfl
 i212:=by kernel_rfl
 i232:=by kernel_rfl
 i233:=by kernel_rfl
 m17:=by kernel_rfl
 m18:=by kernel_rfl
 m19:=by kernel_rfl}
theorem itoa_any (m:Int) (h:0<=m/\m<4294967296) (w:JB) (hp:CU w):Calls prog 43 #[.int .i64 m] w (fun ε w'=>ε=.returned (.string (dH (dS m.toNat)))/\Below w.heap.size w w'):=by
 have e:m=((m.toNat:Nat):Int):=by omega
 refine (Any.strconv_Itoa laysM171 m om om w hp).mono (fun ε w' ⟨h1,k,os,h2⟩=>⟨?_,?_⟩)
 ·rw [h1]
  have:Lib.itoa m=Jq m.toNat:=by
   unfold Lib.itoa
   rw [if_neg om]
  rw [this];rfl
 ·rw [h2];exact Lib.below_grow w.heap.size w (IP _) k os
end
abbrev kNM:JA:=.agg #[kD ⟨#[]⟩,kD ⟨#[107,101,121]⟩,kD ⟨#[109,117,108,116,105]⟩,kD ⟨#[97,102,116,101,114]⟩,kD ⟨#[111,108,100,101,114]⟩,kD ⟨#[104,97,115,104]⟩,kD ⟨#[101,105,116,104,101,114]⟩]
theorem nm_at (kd:Int) (h:1<=kd/\kd<=6) (w:JB):(do pure (IX (<- I4 78 kNM (wR kd))):Sem Next).run prog w=.ok (.value (kD (dH (sG kd)))) w:=by
 rcases (by omega:kd=1\/kd=2\/kd=3\/kd=4\/kd=5\/kd=6) with rfl | rfl | rfl | rfl | rfl | rfl<;>kernel_rfl
theorem slT_q {x y:Int} (h:x=y):(x==y)=true:=by rw [h];exact beq_self_eq_true y
abbrev BD:=fun p0 p1 p2 p3=>(.tuple #[aU p0,aW p1 p2 p3]:JA)
def BdC (s:Tq) (x:LU) (s':Tq):Prop:=∀ w0:JB,iF w0 s.ta s.tc s.ts->CU w0->Calls prog 25 #[aW s.ta s.ts.length s.tc] w0 (jR (BD x s'.ta s'.ts.length s'.tc) w0)
abbrev qy47:=(.agg #[kD ⟨#[]⟩,kD ⟨#[107,101,121]⟩,kD ⟨#[109,117,108,116,105]⟩,kD ⟨#[97,102,116,101,114]⟩,kD ⟨#[111,108,100,101,114]⟩,kD ⟨#[104,97,115,104]⟩,kD ⟨#[101,105,116,104,101,114]⟩]:JA)
theorem AB  (w0:JB):Calls prog 41 #[] w0 (jR qy47 w0):=by
 refine Calls.cW 2 (fun _=>True) func41 rfl rfl rfl jT (sS f41 1 [0] [] (fun r=>[bG r 0]) (fun r=>[(0,(nw r 0 (cL #[kD ⟨#[]⟩,kD ⟨#[]⟩,kD ⟨#[]⟩,kD ⟨#[]⟩,kD ⟨#[]⟩,kD ⟨#[]⟩,kD ⟨#[]⟩] 78)))]) (jX 1) (fun r1=>aY f41 2 [0] [] [qy47,Jz] (lS (nb r1 0) (cL #[kD ⟨#[]⟩,kD ⟨#[107,101,121]⟩,kD ⟨#[109,117,108,116,105]⟩,kD ⟨#[97,102,116,101,114]⟩,kD ⟨#[111,108,100,101,114]⟩,kD ⟨#[104,97,115,104]⟩,kD ⟨#[101,105,116,104,101,114]⟩] 78)) (jE [[],[0]]) (aG ?_)))
 exact mR (v:=qy47) (fun _ hS=>⟨rfl,hS.dM⟩)
abbrev yD:=fun p0 p1=>(.func (.func 42) #[] #[bG p0 5,bG p1 0]:JA)
abbrev zU:=fun p0=>vi (gT p0 0).kd
abbrev DT:=fun p0=>vn (gT p0 0).ks.length
abbrev qy139:=fun p0 p1=>mQ 41 (nb p0 5) (cL #[aU ((sG (gT p1 0).kd)++([40]:LU))] 9)
abbrev qy143:=fun p0 p1 p2=>nw p0 p1 (cL #[kD ⟨#[]⟩] p2)
abbrev qy166:=fun p0=>mQ 2 (nb p0 0) (cL #[kD ⟨#[]⟩] 9)
abbrev qy208:=some (vi 1)
abbrev qy223:=fun p0 p1 p2=>[(1,nb p0 5,(uQ p1)),(2,nb p2 0,Cf)]
theorem body1_any (s:Tq) (hk:(gT s.ts 0).kd=1) (h0:0<s.ts.length) (hfd:(gT s.ts 0).fw=true) (ho:qZ s.ts) (hq:TxS s.ts) (w0:JB) (hf0:iF w0 s.ta s.tc s.ts) (hf1:CU w0):Calls prog 25 #[aW s.ta s.ts.length s.tc] w0 (jR (.tuple #[kD (dH (lL (gK (gT s.ts 0).ks 0))),aW s.go.ta s.go.ts.length s.go.tc]) w0):=by
 refine Calls.cW 76 (fun w=>iF w s.ta s.tc s.ts/\CU w/\True) func25 rfl rfl rfl (hf0.dW.and (hf1.dW.and iD)) ?_
 have hkl:(gT s.ts 0).ks.length=1:=(by have:=C9 hfd;unfold FwP at this;omega)
 have hlen:s.ts.length<=1000000:=hf0.max
 refine jJ f25 2 [0,2,3] [kD ⟨#[]⟩,vz] (sDf f25 [0,1,3,0,8,0,39,127] 8 [0,2,3,4] [] (fun r=>let qa:JA:=.slice (jA s.ta s.tc 1 36) s.ts.tail.length (s.tc-1);let qb:JA:=.slice s.ta s.ts.length s.tc;[qb,tY s.ta (0*36),BB (gT s.ts 0),qb,qa,bG r 5,Jz,qa]) (fun r=>(BH 5 r 50 6 40 (aX.row (gT s.ts 0)))) (fun _=>[(4,fun w=>iF w (jA s.ta s.tc 1 36) (s.tc-1) s.ts.tail)]) (fun _=>(fun w=>iF w s.ta s.tc s.ts/\CU w/\iF w (jA s.ta s.tc 1 36) (s.tc-1) s.ts.tail/\True)) (fun _=>True) (fun _ _ hF hf=>⟨⟨hF.1,hF.2.1,hf 4,trivial⟩,trivial⟩) (jY 1<|nM (fun hG=>iF.idx (k:=.i64) underlying24 sizeOf50 hG.fn.1 rfl (show 0=((0:Nat):Int) from rfl) (show 0<s.ts.length from h0))<|nM (fun hG=>iF.ldA (i:=0) isAgg50 sizeOf50 hG.fn.1 (show 0<s.ts.length from h0))<|jY 1<|cX (jF (fun _=>IZ 24 (aW s.ta s.ts.length s.tc) qy208 none none) (fun _=>(aW (jA s.ta s.tc 1 36) s.ts.tail.length (s.tc-1))) (fun _ _ _ hG=>AA (k:=1) underlying24 sizeOf50 rfl (jI (rfl)) h0 hG.fn.1.le (by rw [IY])) (fun _ _ w hG=>hG.iE.mono (fun _ hF=>hF.1.tail h0)))<|jE [[],[40],[]]) (fun r2 _=>sD f25 [0,0,2,7,15,0,63] 7 [0,2,3,4,5] [] (fun r=>[kNM,bG r2 5,zU s.ts,aU (sG (gT s.ts 0).kd),aU ((sG (gT s.ts 0).kd)++([40]:LU)),bG r 5,Jz]) (fun r=>[(5,(qy143 r 5 9)),(6,(qy139 r s.ts))]) (oO AB<|cR [[],[0]]<|pI (I4 78 kNM (zU s.ts)) (aU (sG (gT s.ts 0).kd)) (nm_at _ om)<|jC (sG (gT s.ts 0).kd) [40] 9 (by have q1:=iV (gT s.ts 0).kd;have q2:=hq _ (fH h0) _ (mO (show 0<(gT s.ts 0).ks.length by rw [hkl];decide));simp only [II,IJ,IK,bD,aT,lL,lM] at *;omega)<|jE [[],[41]]) (fun r3=>sS f25 2 [0,2,3,4,5,6] [] (fun r=>[bG r 0,Jz]) (fun r=>[(0,(qy143 r 0 9)),(1,(qy166 r))]) (jE [[],[2]]) (fun r4=>jJ f25 2 [0,2,3,4,5,7] [yD r3 r4,yD r3 r4] (aC (jM f25 2 [0,2,3,4,5,7,23] [] [bG r2 5,zU s.ts] [[],[0]] (aJ (aY f25 2 [0,2,3,4,5,7,23,24] [] [vF,vF] [] (xU ((gT s.ts 0).kd==2) false (jK hk rfl)<|jX 1) (oN (aC (aY f25 2 [0,2,3,4,5,7,23,31] [] [vF,vF] [] (xU ((gT s.ts 0).kd==3) false (jK hk rfl)<|jX 1) (oN (lV f25 2 [0,2,3,4,5,7,23,31] [] [vF,vF] [] (xU ((gT s.ts 0).kd==4) false (jK hk rfl)<|jX 1) (aA (oN (aY f25 2 [0,2,3,4,5,7,40] [] [vF,vF] [] (xU ((gT s.ts 0).kd==5) false (jK hk rfl)<|jX 1) (oN (aI (aH (aA (aC (jM f25 4 [0,2,3,4,5,7,48,49,50] [] [bH r2 5 35,.slice (gT s.ts 0).ka (gT s.ts 0).ks.length (gT s.ts 0).kc,DT s.ts,vi 0] Eu (aJ (lD 2 ?_))))))))))))))))))))))))
 refine fD (aY f25 1 [0,2,3,4,5,7,48,49,50,51] [] [vT] [] (xU (decide (0<(((gT s.ts 0).ks.length:Nat):Int))) true (show (decide (0<(((gT s.ts 0).ks.length:Nat):Int)))=true by as_aux_lemma=>rw [hkl];rfl)<|cN) (uF [(0,(aW (jA s.ta s.tc 1 36) s.ts.tail.length (s.tc-1))),(2,(kD ⟨#[]⟩)),(3,vz),(4,(bG r2 5)),(5,(bG r3 5)),(7,(yD r3 r4)),(48,(.slice (gT s.ts 0).ka (gT s.ts 0).ks.length (gT s.ts 0).kc)),(49,(DT s.ts)),(50,(vi 0)),(51,vT)] [(nb r2 5,(bM (aX.row (gT s.ts 0)))),(nb r3 5,(uQ ((sG (gT s.ts 0).kd)++([40]:LU)))),(nb r4 0,(cL #[kD ⟨#[]⟩] 9))] (aC (oY (aI (aA (aC (aJ (sS f25 4 [0,2,3,4,5,7,9,48,49,50,51,52,53] [] (fun r=>[pX (zM (gT s.ts 0).ka (0*45)),bW (dB.row (gK (gT s.ts 0).ks 0)),bG r 2,Jz]) (fun r=>[(2,(fB r 2 wC 59)),(3,(jD 19 r 2 (dB.row (gK (gT s.ts 0).ks 0)) 59))]) (nM (fun hG=>wX.idx (k:=.i64) underlying48 sizeOf59 (hG.fn.1.sub _ (fH (show 0<s.ts.length from h0))) rfl (show 0=((0:Nat):Int) from rfl) (show 0<(gT s.ts 0).ks.length from (by rw [hkl];decide)))<|nM (fun hG=>wX.ldA (i:=0) isAgg59 sizeOf59 (hG.fn.1.sub _ (fH (show 0<s.ts.length from h0))) (show 0<(gT s.ts 0).ks.length from (by rw [hkl];decide)))<|jE [[],[19]]) (fun _=>lV f25 4 [0,2,3,4,5,7,9,48,49,50,51,52,53,54,55,56] [] [yD r3 r4,bW (dB.row (gK (gT s.ts 0).ks 0)),kD (dH (gK (gT s.ts 0).ks 0).tx),oH] [(3,{ puts:=(qy223 r3 (((sG (gT s.ts 0).kd)++([40]:LU))++(([]:LU)++(gK (gT s.ts 0).ks 0).tx)) r4)})] (cR [[],[3]]<|zW (fun hG=>Hl (gK (gT s.ts 0).ks 0) (ho.gK 0 0) _ ((hG.fn.1.sub _ (fH (show 0<s.ts.length from h0))).sub _ (mO (show 0<(gT s.ts 0).ks.length from (by rw [hkl];decide)))) hG.fn.2.1)<|l7 [1,2] (rX (gK (gT s.ts 0).ks 0).tx (nb r3 5) (nb r4 0) ((sG (gT s.ts 0).kd)++([40]:LU)) ([]:LU) (by have q1:=iV (gT s.ts 0).kd;have q2:=hq _ (fH h0) _ (mO (show 0<(gT s.ts 0).ks.length by rw [hkl];decide));simp only [II,IJ,IK,bD,aT,lL,lM] at *;omega) dC (by have q1:=iV (gT s.ts 0).kd;have q2:=hq _ (fH h0) _ (mO (show 0<(gT s.ts 0).ks.length by rw [hkl];decide));simp only [II,IJ,IK,bD,aT,lL,lM] at *;omega))<|cN) (aH (aA (jL f25 2 [0,2,3,4,5,7,9,48,49,50,51,52,53,54,55,56,58] [] [vi 1,vi 1] [[],[]] (mM (fD (aY f25 1 [0,2,3,4,5,7,9,48,49,50,51,52,53,54,55,56,58] [] [vF] [] (xU (decide (1<(((gT s.ts 0).ks.length:Nat):Int))) false (show (decide (1<(((gT s.ts 0).ks.length:Nat):Int)))=false by as_aux_lemma=>rw [hkl];rfl)<|cN) (aC (oN (bC (aF (aF (aO (aA (aC ?_))))))))))))))))))))))))
 refine aY f25 4 [0,2,3,5,7,61,62] [0,1,1,0] [bG r2 5,zU s.ts,vi (lU (gT s.ts 0).kd),vi 0] [] (cR [[],[0]]<|oO (rW (gT s.ts 0).kd)<|jX 1) (aJ (lD 1 (fD (aY f25 1 [0,2,3,5,7,61,62,63] [] [vF] [] (xU (decide (0<(lU (gT s.ts 0).kd))) false (show (decide (0<(lU (gT s.ts 0).kd)))=false by rw [show lU (gT s.ts 0).kd=0 from by rw [show (gT s.ts 0).kd=1 from hk];rfl];rfl)<|cN) (aC (oN (bC (aF (aF (aO (aA (aY f25 5 [2,3] [0,0] (let qa:=dH ((((sG (gT s.ts 0).kd)++([40]:LU))++(([]:LU)++(gK (gT s.ts 0).ks 0).tx))++([41]:LU));let qb:JA:=.slice (jA s.ta s.tc 1 36) s.ts.tail.length (s.tc-1);[aU (((sG (gT s.ts 0).kd)++([40]:LU))++(([]:LU)++(gK (gT s.ts 0).ks 0).tx)),kD qa,qb,kD qa,qb]) [] (cR [[0]]<|jC (((sG (gT s.ts 0).kd)++([40]:LU))++(([]:LU)++(gK (gT s.ts 0).ks 0).tx)) [41] 9 (by have q1:=iV (gT s.ts 0).kd;have q2:=hq _ (fH h0) _ (mO (show 0<(gT s.ts 0).ks.length by rw [hkl];decide));simp only [II,IJ,IK,bD,aT,lL,lM] at *;omega)<|jX 3) (aG ?_)))))))))))))
 exact mR (v:=(BD ((((sG (gT s.ts 0).kd)++([40]:LU))++(([]:LU)++(gK (gT s.ts 0).ks 0).tx))++([41]:LU)) (jA s.ta s.tc 1 36) s.ts.tail.length (s.tc-1))) (fun _ hS=>⟨congrArg (fun z=>IL (BD z s.go.ta s.go.ts.length s.go.tc)) (kb1 hk),hS.dM⟩)
theorem body2_any (s:Tq) (hk:(gT s.ts 0).kd=2) (h0:0<s.ts.length) (hfd:(gT s.ts 0).fw=true) (ho:qZ s.ts) (hq:TxS s.ts) (w0:JB) (hf0:iF w0 s.ta s.tc s.ts) (hf1:CU w0):Calls prog 25 #[aW s.ta s.ts.length s.tc] w0 (jR (.tuple #[kD (dH (lM (gT s.ts 0).m (gT s.ts 0).ks)),aW s.go.ta s.go.ts.length s.go.tc]) w0):=by
 refine Calls.cW 76 (fun w=>iF w s.ta s.tc s.ts/\CU w/\True) func25 rfl rfl rfl (hf0.dW.and (hf1.dW.and iD)) ?_
 have hkl:(1<=(gT s.ts 0).ks.length/\(gT s.ts 0).ks.length<=20000)/\0<=(gT s.ts 0).m/\(gT s.ts 0).m<4294967296:=(by have:=C9 hfd;unfold FwP at this;omega)
 have hlen:s.ts.length<=1000000:=hf0.max
 refine jJ f25 2 [0,2,3] [kD ⟨#[]⟩,vz] (sDf f25 [0,1,3,0,8,0,39,127] 8 [0,2,3,4] [] (fun r=>let qa:JA:=.slice (jA s.ta s.tc 1 36) s.ts.tail.length (s.tc-1);let qb:JA:=.slice s.ta s.ts.length s.tc;[qb,tY s.ta (0*36),BB (gT s.ts 0),qb,qa,bG r 5,Jz,qa]) (fun r=>(BH 5 r 50 6 40 (aX.row (gT s.ts 0)))) (fun _=>[(4,fun w=>iF w (jA s.ta s.tc 1 36) (s.tc-1) s.ts.tail)]) (fun _=>(fun w=>iF w s.ta s.tc s.ts/\CU w/\iF w (jA s.ta s.tc 1 36) (s.tc-1) s.ts.tail/\True)) (fun _=>True) (fun _ _ hF hf=>⟨⟨hF.1,hF.2.1,hf 4,trivial⟩,trivial⟩) (jY 1<|nM (fun hG=>iF.idx (k:=.i64) underlying24 sizeOf50 hG.fn.1 rfl (show 0=((0:Nat):Int) from rfl) (show 0<s.ts.length from h0))<|nM (fun hG=>iF.ldA (i:=0) isAgg50 sizeOf50 hG.fn.1 (show 0<s.ts.length from h0))<|jY 1<|cX (jF (fun _=>IZ 24 (aW s.ta s.ts.length s.tc) qy208 none none) (fun _=>(aW (jA s.ta s.tc 1 36) s.ts.tail.length (s.tc-1))) (fun _ _ _ hG=>AA (k:=1) underlying24 sizeOf50 rfl (jI (rfl)) h0 hG.fn.1.le (by rw [IY])) (fun _ _ w hG=>hG.iE.mono (fun _ hF=>hF.1.tail h0)))<|jE [[],[40],[]]) (fun r2 _=>sD f25 [0,0,2,7,15,0,63] 7 [0,2,3,4,5] [] (fun r=>[kNM,bG r2 5,zU s.ts,aU (sG (gT s.ts 0).kd),aU ((sG (gT s.ts 0).kd)++([40]:LU)),bG r 5,Jz]) (fun r=>[(5,(qy143 r 5 9)),(6,(qy139 r s.ts))]) (oO AB<|cR [[],[0]]<|pI (I4 78 kNM (zU s.ts)) (aU (sG (gT s.ts 0).kd)) (nm_at _ om)<|jC (sG (gT s.ts 0).kd) [40] 9 (by have q1:=iV (gT s.ts 0).kd;have q2:=fA (n:=(gT s.ts 0).m.toNat) (by omega);have q5:=hkl;simp only [II,IJ,IK,bD,aT,lL,lM] at *;omega)<|jE [[],[41]]) (fun r3=>sS f25 2 [0,2,3,4,5,6] [] (fun r=>[bG r 0,Jz]) (fun r=>[(0,(qy143 r 0 9)),(1,(qy166 r))]) (jE [[],[2]]) (fun r4=>jJ f25 2 [0,2,3,4,5,7] [yD r3 r4,yD r3 r4] (aC (jM f25 2 [0,2,3,4,5,7,23] [] [bG r2 5,zU s.ts] [[],[0]] (aJ (aY f25 2 [0,2,3,4,5,7,23,24] [] [vT,vT] [] (xU ((gT s.ts 0).kd==2) true (jK hk rfl)<|jX 1) (oY (lV f25 5 [0,2,3,4,5,7] [] [yD r3 r4,bH r2 5 1,vi (gT s.ts 0).m,aU (dS (gT s.ts 0).m.toNat),oH] [(4,{ puts:=(qy223 r3 (((sG (gT s.ts 0).kd)++([40]:LU))++(([]:LU)++(dS (gT s.ts 0).m.toNat))) r4)})] (cR qA<|zW (fun hG=>itoa_any (gT s.ts 0).m om _ hG.fn.2.1)<|l7 [1,2] (rX (dS (gT s.ts 0).m.toNat) (nb r3 5) (nb r4 0) ((sG (gT s.ts 0).kd)++([40]:LU)) ([]:LU) (by have q1:=iV (gT s.ts 0).kd;have q2:=fA (n:=(gT s.ts 0).m.toNat) (by omega);have q5:=hkl;simp only [II,IJ,IK,bD,aT,lL,lM] at *;omega) dC (by have q1:=iV (gT s.ts 0).kd;have q2:=fA (n:=(gT s.ts 0).m.toNat) (by omega);have q5:=hkl;simp only [II,IJ,IK,bD,aT,lL,lM] at *;omega))<|cN) (aH (aA (aC (jM f25 4 [0,2,3,4,5,7,48,49,50] [] [bH r2 5 35,.slice (gT s.ts 0).ka (gT s.ts 0).ks.length (gT s.ts 0).kc,DT s.ts,vi 0] Eu (aJ ?_)))))))))))))))
 refine oL (σ:=Nat × (LU)) (fun ⟨i,_⟩=>[(0,(aW (jA s.ta s.tc 1 36) s.ts.tail.length (s.tc-1))),(2,(kD ⟨#[]⟩)),(3,vz),(4,(bG r2 5)),(5,(bG r3 5)),(7,(yD r3 r4)),(48,(.slice (gT s.ts 0).ka (gT s.ts 0).ks.length (gT s.ts 0).kc)),(49,(DT s.ts)),(50,(vn i))]) (fun ⟨_,S⟩=>[(nb r2 5,(bM (aX.row (gT s.ts 0)))),(nb r3 5,(uQ S)),(nb r4 0,Cf)]) (fun ⟨i,_⟩=>(gT s.ts 0).ks.length-i)
  (fun ⟨i,S⟩=>(i<=(gT s.ts 0).ks.length)/\(S=((sG (gT s.ts 0).kd++[40])++([]++dS (gT s.ts 0).m.toNat))++vZ ((gT s.ts 0).ks.take i))) (0,((sG (gT s.ts 0).kd++[40])++([]++dS (gT s.ts 0).m.toNat))) (⟨IU _,(Jf _).symm⟩) [] ?_
 rintro ⟨i,S⟩ ⟨hi,hZ⟩
 refine jJ f25 1 [0,2,3,4,5,7,48,49,50,51] [.bool (decide ((i:Int)<(((gT s.ts 0).ks.length:Nat):Int)))] (aC (oC (decide ((i:Int)<(((gT s.ts 0).ks.length:Nat):Int))) (fun b1=>?_) (fun b1=>?_)))
 ·rw [b1]
  have:=yT b1
  have zh1:i<(gT s.ts 0).ks.length:=om
  refine aI (aA (aC (aJ (sS f25 4 [0,2,3,4,5,7,9,48,49,50] [] (fun r=>[pX (zM (gT s.ts 0).ka (i*45)),bW (dB.row (gK (gT s.ts 0).ks i)),bG r 2,Jz]) (fun r=>[(2,(fB r 2 wC 59)),(3,(jD 19 r 2 (dB.row (gK (gT s.ts 0).ks i)) 59))]) (nM (fun hG=>wX.idx (k:=.i64) underlying48 sizeOf59 (hG.fn.1.sub _ (fH (show 0<s.ts.length from h0))) rfl (show (i:Int)=(i:Int) from rfl) zh1)<|nM (fun hG=>wX.ldA (i:=i) isAgg59 sizeOf59 (hG.fn.1.sub _ (fH (show 0<s.ts.length from h0))) zh1)<|jE [[],[19]]) (fun _=>lV f25 4 [0,2,3,4,5,7,48,49,50] [1,1,1,0] [yD r3 r4,bW (dB.row (gK (gT s.ts 0).ks i)),kD (dH (gK (gT s.ts 0).ks i).tx),oH] [(3,{ puts:=(qy223 r3 (S++(([44]:LU)++(gK (gT s.ts 0).ks i).tx)) r4)})] (cR [[],[3]]<|zW (fun hG=>Hl (gK (gT s.ts 0).ks i) (ho.gK 0 i) _ ((hG.fn.1.sub _ (fH (show 0<s.ts.length from h0))).sub _ (mO zh1)) hG.fn.2.1)<|l7 [1,2] (rX (gK (gT s.ts 0).ks i).tx (nb r3 5) (nb r4 0) S [44] (by have q1:=iV (gT s.ts 0).kd;have q2:=fA (n:=(gT s.ts 0).m.toNat) (by omega);have q5:=hkl;have q3:=kb_len hZ (hq _ (fH h0));have q7:=kb_ge hZ;have q6:=hq _ (fH h0) _ (mO zh1);simp only [II,IJ,IK,bD,aT,lL,lM] at *;omega) dC (by have q1:=iV (gT s.ts 0).kd;have q2:=fA (n:=(gT s.ts 0).m.toNat) (by omega);have q5:=hkl;have q3:=kb_len hZ (hq _ (fH h0));have q7:=kb_ge hZ;have q6:=hq _ (fH h0) _ (mO zh1);simp only [II,IJ,IK,bD,aT,lL,lM] at *;omega))<|cN) (aH (aA (lV f25 2 [0,2,3,4,5,7,48,49,50] [] [vn (i+1),vn (i+1)] [] (oD (bF i 1 om)<|jX 1) (?_)))))))))
  exact mN (i+1,S++(([44]:LU)++(gK (gT s.ts 0).ks i).tx)) (by show (gT s.ts 0).ks.length-(i+1)<(gT s.ts 0).ks.length-i;omega) (⟨om,kb_n om hZ⟩) []
 rw [b1]
 refine bC (aF (aF (aO (aA (aC (aY f25 4 [0,2,3,5,7,61,62] [0,1,1] [bG r2 5,zU s.ts,vi (lU (gT s.ts 0).kd),vi 0] [] (cR [[],[0]]<|oO (rW (gT s.ts 0).kd)<|jX 1) (aJ (lD 1 (fD (aY f25 1 [0,2,3,5,7,61,62,63] [] [vF] [] (xU (decide (0<(lU (gT s.ts 0).kd))) false (show (decide (0<(lU (gT s.ts 0).kd)))=false by rw [show lU (gT s.ts 0).kd=0 from by rw [show (gT s.ts 0).kd=2 from hk];rfl];rfl)<|cN) (aC (oN (bC (aF (aF (aO (aA (aY f25 5 [2,3] [0,0] (let qa:JA:=.slice (jA s.ta s.tc 1 36) s.ts.tail.length (s.tc-1);[aU S,aU (S++([41]:LU)),qa,aU (S++([41]:LU)),qa]) [] (cR [[0]]<|jC S [41] 9 (by have q1:=iV (gT s.ts 0).kd;have q2:=fA (n:=(gT s.ts 0).m.toNat) (by omega);have q5:=hkl;have q3:=kb_len hZ (hq _ (fH h0));have q7:=kb_ge hZ;simp only [II,IJ,IK,bD,aT,lL,lM] at *;omega)<|jX 3) (aG ?_)))))))))))))))))))
 exact mR (v:=(BD (S++([41]:LU)) (jA s.ta s.tc 1 36) s.ts.tail.length (s.tc-1))) (fun _ hS=>⟨congrArg (fun z=>IL (BD z s.go.ta s.go.ts.length s.go.tc)) (kb2 hk (oA (yF b1)) hZ),hS.dM⟩)
abbrev Bo:=fun p0 p1=>(.tuple #[aU p0,p1]:JA)
theorem body3_any (s:Tq) (x:LU) (s1:Tq) (hk:(gT s.ts 0).kd=3\/(gT s.ts 0).kd=4\/(gT s.ts 0).kd=5) (h0:0<s.ts.length) (hfd:(gT s.ts 0).fw=true) (ho:qZ s.ts) (_hq:TxS s.ts) (hx:x.length<=5200000000000) (ih:BdC s.go x s1) (w0:JB) (hf0:iF w0 s.ta s.tc s.ts) (hf1:CU w0):Calls prog 25 #[aW s.ta s.ts.length s.tc] w0 (jR (.tuple #[kD (dH (slT (gT s.ts 0).kd (gT s.ts 0).nu (gT s.ts 0).h x)),aW s1.ta s1.ts.length s1.tc]) w0):=by
 refine Calls.cW 76 (fun w=>iF w s.ta s.tc s.ts/\CU w/\True) func25 rfl rfl rfl (hf0.dW.and (hf1.dW.and iD)) ?_
 have hkl:(gT s.ts 0).ks.length=0:=(by have:=C9 hfd;unfold FwP at this;omega)
 have hlen:s.ts.length<=1000000:=hf0.max
 refine jJ f25 2 [0,2,3] [kD ⟨#[]⟩,vz] (sDf f25 [0,1,3,0,8,0,39,127] 8 [0,2,3,4] [] (fun r=>let qa:JA:=.slice (jA s.ta s.tc 1 36) s.ts.tail.length (s.tc-1);let qb:JA:=.slice s.ta s.ts.length s.tc;[qb,tY s.ta (0*36),BB (gT s.ts 0),qb,qa,bG r 5,Jz,qa]) (fun r=>(BH 5 r 50 6 40 (aX.row (gT s.ts 0)))) (fun _=>[(4,fun w=>iF w (jA s.ta s.tc 1 36) (s.tc-1) s.ts.tail)]) (fun _=>(fun w=>iF w s.ta s.tc s.ts/\CU w/\iF w (jA s.ta s.tc 1 36) (s.tc-1) s.ts.tail/\True)) (fun _=>True) (fun _ _ hF hf=>⟨⟨hF.1,hF.2.1,hf 4,trivial⟩,trivial⟩) (jY 1<|nM (fun hG=>iF.idx (k:=.i64) underlying24 sizeOf50 hG.fn.1 rfl (show 0=((0:Nat):Int) from rfl) (show 0<s.ts.length from h0))<|nM (fun hG=>iF.ldA (i:=0) isAgg50 sizeOf50 hG.fn.1 (show 0<s.ts.length from h0))<|jY 1<|cX (jF (fun _=>IZ 24 (aW s.ta s.ts.length s.tc) qy208 none none) (fun _=>(aW (jA s.ta s.tc 1 36) s.ts.tail.length (s.tc-1))) (fun _ _ _ hG=>AA (k:=1) underlying24 sizeOf50 rfl (jI (rfl)) h0 hG.fn.1.le (by rw [IY])) (fun _ _ w hG=>hG.iE.mono (fun _ hF=>hF.1.tail h0)))<|jE [[],[40],[]]) (fun r2 _=>sD f25 [0,0,2,7,15,0,63] 7 [0,2,3,4,5] [] (fun r=>[kNM,bG r2 5,zU s.ts,aU (sG (gT s.ts 0).kd),aU ((sG (gT s.ts 0).kd)++([40]:LU)),bG r 5,Jz]) (fun r=>[(5,(qy143 r 5 9)),(6,(qy139 r s.ts))]) (oO AB<|cR [[],[0]]<|pI (I4 78 kNM (zU s.ts)) (aU (sG (gT s.ts 0).kd)) (nm_at _ om)<|jC (sG (gT s.ts 0).kd) [40] 9 (by have q1:=iV (gT s.ts 0).kd;have q2:=fA (n:=(gT s.ts 0).nu) (oA ((ho.gT 0).nu));have q3:=hx;simp only [II,IJ,IK,bD,aT,lL,lM] at *;omega)<|jE [[],[41]]) (fun r3=>sS f25 2 [0,2,3,4,5,6] [] (fun r=>[bG r 0,Jz]) (fun r=>[(0,(qy143 r 0 9)),(1,(qy166 r))]) (jE [[],[2]]) (fun r4=>jJ f25 2 [0,2,3,4,5,7] [yD r3 r4,yD r3 r4] (aC (jM f25 2 [0,2,3,4,5,7,23] [] [bG r2 5,zU s.ts] [[],[0]] (aJ (aY f25 2 [0,2,3,4,5,7,23,24] [] [vF,vF] [] (xU ((gT s.ts 0).kd==2) false (beq_f (show (gT s.ts 0).kd≠2 by have e:(gT s.ts 0).kd=(gT s.ts 0).kd:=rfl;omega))<|jX 1) (oN (aC (jJ f25 2 [0,2,3,4,5,7,23,31] (let qa:JA:=.bool ((gT s.ts 0).kd==3);[qa,qa]) (oC ((gT s.ts 0).kd==3) (fun b1=>?_) (fun b1=>?_)))))))))))))
 ·rw [b1]
  refine aI (aA (oY (lV f25 6 [0,2,3,4,5,7] [] [yD r3 r4,bH r2 5 2,vu ((gT s.ts 0).nu),vx ((gT s.ts 0).nu),aU (dS (gT s.ts 0).nu),oH] [(5,{ puts:=(qy223 r3 (((sG (gT s.ts 0).kd)++([40]:LU))++(([]:LU)++(dS (gT s.ts 0).nu))) r4)})] (cR qA<|eU (vx ((gT s.ts 0).nu)) (congrArg (IR .u64) (txU (ho.gT 0).nu))<|zW (fun hG=>Hu (gT s.ts 0).nu (oA ((ho.gT 0).nu)) _ hG.fn.2.1)<|l7 [1,2] (rX (dS (gT s.ts 0).nu) (nb r3 5) (nb r4 0) ((sG (gT s.ts 0).kd)++([40]:LU)) ([]:LU) (by have q1:=iV (gT s.ts 0).kd;have q2:=fA (n:=(gT s.ts 0).nu) (oA ((ho.gT 0).nu));have q3:=hx;simp only [II,IJ,IK,bD,aT,lL,lM] at *;omega) dC (by have q1:=iV (gT s.ts 0).kd;have q2:=fA (n:=(gT s.ts 0).nu) (oA ((ho.gT 0).nu));have q3:=hx;simp only [II,IJ,IK,bD,aT,lL,lM] at *;omega))<|cN) (aH (aA (aC (jM f25 4 [0,2,3,4,5,7,48,49,50] [] [bH r2 5 35,.slice (gT s.ts 0).ka (gT s.ts 0).ks.length (gT s.ts 0).kc,DT s.ts,vi 0] Eu (aJ (lD 1 (fD (aY f25 1 [0,2,3,4,5,7,48,49,50,51] [] [vF] [] (xU (decide (0<(((gT s.ts 0).ks.length:Nat):Int))) false (show (decide (0<(((gT s.ts 0).ks.length:Nat):Int)))=false by as_aux_lemma=>rw [hkl];rfl)<|cN) (aC (oN (bC (aF (aF (aO (aA (aC (aY f25 4 [0,2,3,5,7,61,62] [0,1,1] [bG r2 5,zU s.ts,vi (lU (gT s.ts 0).kd),vi 0] [] (cR [[],[0]]<|oO (rW (gT s.ts 0).kd)<|jX 1) (uF [(0,(aW (jA s.ta s.tc 1 36) s.ts.tail.length (s.tc-1))),(2,(kD ⟨#[]⟩)),(3,vz),(5,(bG r3 5)),(7,(yD r3 r4)),(61,(vi (lU (gT s.ts 0).kd))),(62,(vi 0))] [(nb r3 5,(uQ (((sG (gT s.ts 0).kd)++([40]:LU))++(([]:LU)++(dS (gT s.ts 0).nu))))),(nb r4 0,Cf)] (aJ (lD 2 (fD ?_))))))))))))))))))))))))
  refine aY f25 1 [0,2,3,5,7,61,62,63] [] [vT] [] (xU (decide (0<(lU (gT s.ts 0).kd))) true (show (decide (0<(lU (gT s.ts 0).kd)))=true by rw [show lU (gT s.ts 0).kd=1 from (kd_3 hk).symm];rfl)<|cN) (aC (oY (aI (aA (aC (aJ (jJ f25 1 [0,2,3,5,7,10,61,62,63] [kD ⟨#[]⟩] (aY f25 7 [0,2,3,5,7,10,61,62,63,64,65,66,67,68] [] (let qa:JA:=.slice s1.ta s1.ts.length s1.tc;[aW (jA s.ta s.tc 1 36) s.ts.tail.length (s.tc-1),Bo x qa,Bo x qa,aU x,qa,aU x,qa]) [] (jY 1<|zW (fun hG=>ih _ hG.fn.2.2.1 hG.fn.2.1)<|jX 5) (lV f25 3 [0,2,3,5,7,10,61,62,63,64,65,66,67,68,69,70] [] [yD r3 r4,aU x,oH] [(2,{ puts:=[(0,nb r3 5,(uQ ((((sG (gT s.ts 0).kd)++([40]:LU))++(([]:LU)++(dS (gT s.ts 0).nu)))++(([44]:LU)++x)))),(1,nb r4 0,Cf)]})] (jY 2<|l7 [0,1] (rX x (nb r3 5) (nb r4 0) (((sG (gT s.ts 0).kd)++([40]:LU))++(([]:LU)++(dS (gT s.ts 0).nu))) [44] (by have q1:=iV (gT s.ts 0).kd;have q2:=fA (n:=(gT s.ts 0).nu) (oA ((ho.gT 0).nu));have q3:=hx;simp only [II,IJ,IK,bD,aT,lL,lM] at *;omega) dC (by have q1:=iV (gT s.ts 0).kd;have q2:=fA (n:=(gT s.ts 0).nu) (oA ((ho.gT 0).nu));have q3:=hx;simp only [II,IJ,IK,bD,aT,lL,lM] at *;omega))<|cN) (aH (aA (jL f25 2 [0,2,3,5,7,10,61,62,63,64,65,66,67,68,69,70,72] [] [vi 1,vi 1] [[],[]] (mM (fD (aY f25 1 [0,2,3,5,7,10,61,62,63,64,65,66,67,68,69,70,72] [] [vF] [] (xU (decide (1<(lU (gT s.ts 0).kd))) false (show (decide (1<(lU (gT s.ts 0).kd)))=false by rw [show lU (gT s.ts 0).kd=1 from (kd_3 hk).symm];rfl)<|cN) (aC (oN (bC (aF (aF (aO (aA (aY f25 5 [2,3] [0,0] (let qa:=dH (((((sG (gT s.ts 0).kd)++([40]:LU))++(([]:LU)++(dS (gT s.ts 0).nu)))++(([44]:LU)++x))++([41]:LU));let qb:JA:=.slice s1.ta s1.ts.length s1.tc;[aU ((((sG (gT s.ts 0).kd)++([40]:LU))++(([]:LU)++(dS (gT s.ts 0).nu)))++(([44]:LU)++x)),kD qa,qb,kD qa,qb]) [] (cR [[0]]<|jC ((((sG (gT s.ts 0).kd)++([40]:LU))++(([]:LU)++(dS (gT s.ts 0).nu)))++(([44]:LU)++x)) [41] 9 (by have q1:=iV (gT s.ts 0).kd;have q2:=fA (n:=(gT s.ts 0).nu) (oA ((ho.gT 0).nu));have q3:=hx;simp only [II,IJ,IK,bD,aT,lL,lM] at *;omega)<|jX 3) (aG ?_))))))))))))))))))))))))
  exact mR (v:=(BD (((((sG (gT s.ts 0).kd)++([40]:LU))++(([]:LU)++(dS (gT s.ts 0).nu)))++(([44]:LU)++x))++([41]:LU)) s1.ta s1.ts.length s1.tc)) (fun _ hS=>⟨congrArg (fun z=>IL (BD z s1.ta s1.ts.length s1.tc)) (sl3 (oA (F6 b1))),hS.dM⟩)
 rw [b1]
 have zh1:(decide (1<(lU (gT s.ts 0).kd)))=false:=by rw [show lU (gT s.ts 0).kd=1 from (kd_3 hk).symm];rfl
 have zh2:(decide (0<(lU (gT s.ts 0).kd)))=true:=by rw [show lU (gT s.ts 0).kd=1 from (kd_3 hk).symm];rfl
 refine jL f25 2 [0,2,3,4,5,7,23,31] [] (let qa:JA:=.bool ((gT s.ts 0).kd==4);[qa,qa]) [[],[]] (aA (oC ((gT s.ts 0).kd==4) (fun b2=>?_) (fun b2=>?_)))
 ·rw [b2]
  refine lV f25 6 [0,2,3,4,5,7] [] [yD r3 r4,bH r2 5 2,vu ((gT s.ts 0).nu),vx ((gT s.ts 0).nu),aU (dS (gT s.ts 0).nu),oH] [(5,{ puts:=(qy223 r3 (((sG (gT s.ts 0).kd)++([40]:LU))++(([]:LU)++(dS (gT s.ts 0).nu))) r4)})] (cR qA<|eU (vx ((gT s.ts 0).nu)) (congrArg (IR .u64) (txU (ho.gT 0).nu))<|zW (fun hG=>Hu (gT s.ts 0).nu (oA ((ho.gT 0).nu)) _ hG.fn.2.1)<|l7 [1,2] (rX (dS (gT s.ts 0).nu) (nb r3 5) (nb r4 0) ((sG (gT s.ts 0).kd)++([40]:LU)) ([]:LU) (by have q1:=iV (gT s.ts 0).kd;have q2:=fA (n:=(gT s.ts 0).nu) (oA ((ho.gT 0).nu));have q3:=hx;simp only [II,IJ,IK,bD,aT,lL,lM] at *;omega) dC (by have q1:=iV (gT s.ts 0).kd;have q2:=fA (n:=(gT s.ts 0).nu) (oA ((ho.gT 0).nu));have q3:=hx;simp only [II,IJ,IK,bD,aT,lL,lM] at *;omega))<|cN) (aH (aA (aC (jM f25 4 [0,2,3,4,5,7,48,49,50] [] [bH r2 5 35,.slice (gT s.ts 0).ka (gT s.ts 0).ks.length (gT s.ts 0).kc,DT s.ts,vi 0] Eu (aJ (lD 1 (fD (aY f25 1 [0,2,3,4,5,7,48,49,50,51] [] [vF] [] (xU (decide (0<(((gT s.ts 0).ks.length:Nat):Int))) false (show (decide (0<(((gT s.ts 0).ks.length:Nat):Int)))=false by as_aux_lemma=>rw [hkl];rfl)<|cN) (uF [(0,(aW (jA s.ta s.tc 1 36) s.ts.tail.length (s.tc-1))),(2,(kD ⟨#[]⟩)),(3,vz),(4,(bG r2 5)),(5,(bG r3 5)),(7,(yD r3 r4)),(48,(.slice (gT s.ts 0).ka (gT s.ts 0).ks.length (gT s.ts 0).kc)),(49,(DT s.ts)),(50,(vi 0)),(51,vF)] [(nb r2 5,(bM (aX.row (gT s.ts 0)))),(nb r3 5,(uQ (((sG (gT s.ts 0).kd)++([40]:LU))++(([]:LU)++(dS (gT s.ts 0).nu))))),(nb r4 0,Cf)] (aC (oN (bC (aF (aF (aO (aA (aC (aY f25 4 [0,2,3,5,7,61,62] [0,1,1] [bG r2 5,zU s.ts,vi (lU (gT s.ts 0).kd),vi 0] [] (cR [[],[0]]<|oO (rW (gT s.ts 0).kd)<|jX 1) (aJ (lD 2 (fD (aY f25 1 [0,2,3,5,7,61,62,63] [] [vT] [] (xU (decide (0<(lU (gT s.ts 0).kd))) true zh2<|cN) (aC (oY ?_))))))))))))))))))))))))
  refine aI (aA (aC (aJ (jJ f25 1 [0,2,3,5,7,10,61,62,63] [kD ⟨#[]⟩] (aY f25 7 [0,2,3,5,7,10,61,62,63,64,65,66,67,68] [] (let qa:JA:=.slice s1.ta s1.ts.length s1.tc;[aW (jA s.ta s.tc 1 36) s.ts.tail.length (s.tc-1),Bo x qa,Bo x qa,aU x,qa,aU x,qa]) [] (jY 1<|zW (fun hG=>ih _ hG.fn.2.2.1 hG.fn.2.1)<|jX 5) (lV f25 3 [0,2,3,5,7,10,61,62,63,64,65,66,67,68,69,70] [] [yD r3 r4,aU x,oH] [(2,{ puts:=[(0,nb r3 5,(uQ ((((sG (gT s.ts 0).kd)++([40]:LU))++(([]:LU)++(dS (gT s.ts 0).nu)))++(([44]:LU)++x)))),(1,nb r4 0,Cf)]})] (jY 2<|l7 [0,1] (rX x (nb r3 5) (nb r4 0) (((sG (gT s.ts 0).kd)++([40]:LU))++(([]:LU)++(dS (gT s.ts 0).nu))) [44] (by have q1:=iV (gT s.ts 0).kd;have q2:=fA (n:=(gT s.ts 0).nu) (oA ((ho.gT 0).nu));have q3:=hx;simp only [II,IJ,IK,bD,aT,lL,lM] at *;omega) dC (by have q1:=iV (gT s.ts 0).kd;have q2:=fA (n:=(gT s.ts 0).nu) (oA ((ho.gT 0).nu));have q3:=hx;simp only [II,IJ,IK,bD,aT,lL,lM] at *;omega))<|cN) (aH (aA (jL f25 2 [0,2,3,5,7,10,61,62,63,64,65,66,67,68,69,70,72] [] [vi 1,vi 1] [[],[]] (mM (fD (aY f25 1 [0,2,3,5,7,10,61,62,63,64,65,66,67,68,69,70,72] [] [vF] [] (xU (decide (1<(lU (gT s.ts 0).kd))) false zh1<|cN) (aC (oN (bC (aF (aF (aO (aA (aY f25 5 [2,3] [0,0] (let qa:=dH (((((sG (gT s.ts 0).kd)++([40]:LU))++(([]:LU)++(dS (gT s.ts 0).nu)))++(([44]:LU)++x))++([41]:LU));let qb:JA:=.slice s1.ta s1.ts.length s1.tc;[aU ((((sG (gT s.ts 0).kd)++([40]:LU))++(([]:LU)++(dS (gT s.ts 0).nu)))++(([44]:LU)++x)),kD qa,qb,kD qa,qb]) [] (cR [[0]]<|jC ((((sG (gT s.ts 0).kd)++([40]:LU))++(([]:LU)++(dS (gT s.ts 0).nu)))++(([44]:LU)++x)) [41] 9 (by have q1:=iV (gT s.ts 0).kd;have q2:=fA (n:=(gT s.ts 0).nu) (oA ((ho.gT 0).nu));have q3:=hx;simp only [II,IJ,IK,bD,aT,lL,lM] at *;omega)<|jX 3) (aG ?_)))))))))))))))))))))
  exact mR (v:=(BD (((((sG (gT s.ts 0).kd)++([40]:LU))++(([]:LU)++(dS (gT s.ts 0).nu)))++(([44]:LU)++x))++([41]:LU)) s1.ta s1.ts.length s1.tc)) (fun _ hS=>⟨congrArg (fun z=>IL (BD z s1.ta s1.ts.length s1.tc)) (sl4 (oB (rJ b1) (F6 b2))),hS.dM⟩)
 rw [b2]
 refine aY f25 2 [0,2,3,4,5,7,40] [] [vT,vT] [] (xU ((gT s.ts 0).kd==5) true (slT_q (show (gT s.ts 0).kd=5 by have e:(gT s.ts 0).kd=(gT s.ts 0).kd:=rfl;have:=rJ b1;have:=rJ b2;omega))<|jX 1) (oY (lV f25 5 [0,2,3,4,5,7] [] [yD r3 r4,bH r2 5 3,CP (hL (gT s.ts 0).h) (rF r2 5 3),aU (kU (hL (gT s.ts 0).h)),oH] [(4,{ puts:=(qy223 r3 (((sG (gT s.ts 0).kd)++([40]:LU))++(([]:LU)++(kU (hL (gT s.ts 0).h)))) r4)})] (jY 3<|zW (fun hG=>hex_any (rF r2 5 3) 32 (hL (gT s.ts 0).h) (by rw [aT];decide) _ (Bs.of_term (hG.kn (g:=nb r2 5) (o:=(bM (aX.row (gT s.ts 0)))) 0)))<|l7 [1,2] (rX (kU (hL (gT s.ts 0).h)) (nb r3 5) (nb r4 0) ((sG (gT s.ts 0).kd)++([40]:LU)) ([]:LU) (by have q1:=iV (gT s.ts 0).kd;have q2:=fA (n:=(gT s.ts 0).nu) (oA ((ho.gT 0).nu));have q3:=hx;simp only [II,IJ,IK,bD,aT,lL,lM] at *;omega) dC (by have q1:=iV (gT s.ts 0).kd;have q2:=fA (n:=(gT s.ts 0).nu) (oA ((ho.gT 0).nu));have q3:=hx;simp only [II,IJ,IK,bD,aT,lL,lM] at *;omega))<|cN) (aH (aA (aC (jM f25 4 [0,2,3,4,5,7,48,49,50] [] [bH r2 5 35,.slice (gT s.ts 0).ka (gT s.ts 0).ks.length (gT s.ts 0).kc,DT s.ts,vi 0] Eu (uF [(0,(aW (jA s.ta s.tc 1 36) s.ts.tail.length (s.tc-1))),(2,(kD ⟨#[]⟩)),(3,vz),(4,(bG r2 5)),(5,(bG r3 5)),(7,(yD r3 r4)),(48,(.slice (gT s.ts 0).ka (gT s.ts 0).ks.length (gT s.ts 0).kc)),(49,(DT s.ts)),(50,(vi 0))] [(nb r2 5,(bM (aX.row (gT s.ts 0)))),(nb r3 5,(uQ (((sG (gT s.ts 0).kd)++([40]:LU))++(([]:LU)++(kU (hL (gT s.ts 0).h)))))),(nb r4 0,Cf)] (aJ (lD 1 (fD (aY f25 1 [0,2,3,4,5,7,48,49,50,51] [] [vF] [] (xU (decide (0<(((gT s.ts 0).ks.length:Nat):Int))) false (show (decide (0<(((gT s.ts 0).ks.length:Nat):Int)))=false by as_aux_lemma=>rw [hkl];rfl)<|cN) (aC (oN (bC (aF (aF (aO (aA (aC (aY f25 4 [0,2,3,5,7,61,62] [0,1,1] [bG r2 5,zU s.ts,vi (lU (gT s.ts 0).kd),vi 0] [] (cR [[],[0]]<|oO (rW (gT s.ts 0).kd)<|jX 1) (aJ (lD 2 (fD (aY f25 1 [0,2,3,5,7,61,62,63] [] [vT] [] (xU (decide (0<(lU (gT s.ts 0).kd))) true zh2<|cN) (?_)))))))))))))))))))))))))
 refine aC (oY (aI (aA (aC (aJ (jJ f25 1 [0,2,3,5,7,10,61,62,63] [kD ⟨#[]⟩] (aY f25 7 [0,2,3,5,7,10,61,62,63,64,65,66,67,68] [] (let qa:JA:=.slice s1.ta s1.ts.length s1.tc;[aW (jA s.ta s.tc 1 36) s.ts.tail.length (s.tc-1),Bo x qa,Bo x qa,aU x,qa,aU x,qa]) [] (jY 1<|zW (fun hG=>ih _ hG.fn.2.2.1 hG.fn.2.1)<|jX 5) (lV f25 3 [0,2,3,5,7,10,61,62,63,64,65,66,67,68,69,70] [] [yD r3 r4,aU x,oH] [(2,{ puts:=[(0,nb r3 5,(uQ ((((sG (gT s.ts 0).kd)++([40]:LU))++(([]:LU)++(kU (hL (gT s.ts 0).h))))++(([44]:LU)++x)))),(1,nb r4 0,Cf)]})] (jY 2<|l7 [0,1] (rX x (nb r3 5) (nb r4 0) (((sG (gT s.ts 0).kd)++([40]:LU))++(([]:LU)++(kU (hL (gT s.ts 0).h)))) [44] (by have q1:=iV (gT s.ts 0).kd;have q2:=fA (n:=(gT s.ts 0).nu) (oA ((ho.gT 0).nu));have q3:=hx;simp only [II,IJ,IK,bD,aT,lL,lM] at *;omega) dC (by have q1:=iV (gT s.ts 0).kd;have q2:=fA (n:=(gT s.ts 0).nu) (oA ((ho.gT 0).nu));have q3:=hx;simp only [II,IJ,IK,bD,aT,lL,lM] at *;omega))<|cN) (aH (aA (jL f25 2 [0,2,3,5,7,10,61,62,63,64,65,66,67,68,69,70,72] [] [vi 1,vi 1] [[],[]] (mM (fD (aY f25 1 [0,2,3,5,7,10,61,62,63,64,65,66,67,68,69,70,72] [] [vF] [] (xU (decide (1<(lU (gT s.ts 0).kd))) false zh1<|cN) (aC (oN (bC (aF (aF (aO (aA (aY f25 5 [2,3] [0,0] (let qa:=dH (((((sG (gT s.ts 0).kd)++([40]:LU))++(([]:LU)++(kU (hL (gT s.ts 0).h))))++(([44]:LU)++x))++([41]:LU));let qb:JA:=.slice s1.ta s1.ts.length s1.tc;[aU ((((sG (gT s.ts 0).kd)++([40]:LU))++(([]:LU)++(kU (hL (gT s.ts 0).h))))++(([44]:LU)++x)),kD qa,qb,kD qa,qb]) [] (cR [[0]]<|jC ((((sG (gT s.ts 0).kd)++([40]:LU))++(([]:LU)++(kU (hL (gT s.ts 0).h))))++(([44]:LU)++x)) [41] 9 (by have q1:=iV (gT s.ts 0).kd;have q2:=fA (n:=(gT s.ts 0).nu) (oA ((ho.gT 0).nu));have q3:=hx;simp only [II,IJ,IK,bD,aT,lL,lM] at *;omega)<|jX 3) (aG ?_)))))))))))))))))))))))
 exact mR (v:=(BD (((((sG (gT s.ts 0).kd)++([40]:LU))++(([]:LU)++(kU (hL (gT s.ts 0).h))))++(([44]:LU)++x))++([41]:LU)) s1.ta s1.ts.length s1.tc)) (fun _ hS=>⟨congrArg (fun z=>IL (BD z s1.ta s1.ts.length s1.tc)) (sl5 (oB (rJ b1) (rJ b2))),hS.dM⟩)
theorem body6_any (s:Tq) (x:LU) (s1:Tq) (y:LU) (s2:Tq) (hk:(gT s.ts 0).kd=6) (h0:0<s.ts.length) (hfd:(gT s.ts 0).fw=true) (_ho:qZ s.ts) (_hq:TxS s.ts) (hx:x.length<=5200000000000) (ih:BdC s.go x s1) (hy:y.length<=5200000000000) (ih2:BdC s1 y s2) (w0:JB) (hf0:iF w0 s.ta s.tc s.ts) (hf1:CU w0) (hf2:iF w0 s1.ta s1.tc s1.ts):Calls prog 25 #[aW s.ta s.ts.length s.tc] w0 (jR (.tuple #[kD (dH (eiT x y)),aW s2.ta s2.ts.length s2.tc]) w0):=by
 refine Calls.cW 76 (fun w=>iF w s.ta s.tc s.ts/\CU w/\iF w s1.ta s1.tc s1.ts/\True) func25 rfl rfl rfl (hf0.dW.and (hf1.dW.and (hf2.dW.and iD))) ?_
 have hkl:(gT s.ts 0).ks.length=0:=(by have:=C9 hfd;unfold FwP at this;omega)
 have hlen:s.ts.length<=1000000:=hf0.max
 refine jJ f25 2 [0,2,3] [kD ⟨#[]⟩,vz] (sDf f25 [0,1,3,0,8,0,39,127] 8 [0,2,3,4] [] (fun r=>let qa:JA:=.slice (jA s.ta s.tc 1 36) s.ts.tail.length (s.tc-1);let qb:JA:=.slice s.ta s.ts.length s.tc;[qb,tY s.ta (0*36),BB (gT s.ts 0),qb,qa,bG r 5,Jz,qa]) (fun r=>(BH 5 r 50 6 40 (aX.row (gT s.ts 0)))) (fun _=>[(4,fun w=>iF w (jA s.ta s.tc 1 36) (s.tc-1) s.ts.tail)]) (fun _=>(fun w=>iF w s.ta s.tc s.ts/\CU w/\iF w s1.ta s1.tc s1.ts/\iF w (jA s.ta s.tc 1 36) (s.tc-1) s.ts.tail/\True)) (fun _=>True) (fun _ _ hF hf=>⟨⟨hF.1,hF.2.1,hF.2.2.1,hf 4,trivial⟩,trivial⟩) (jY 1<|nM (fun hG=>iF.idx (k:=.i64) underlying24 sizeOf50 hG.fn.1 rfl (show 0=((0:Nat):Int) from rfl) (show 0<s.ts.length from h0))<|nM (fun hG=>iF.ldA (i:=0) isAgg50 sizeOf50 hG.fn.1 (show 0<s.ts.length from h0))<|jY 1<|cX (jF (fun _=>IZ 24 (aW s.ta s.ts.length s.tc) qy208 none none) (fun _=>(aW (jA s.ta s.tc 1 36) s.ts.tail.length (s.tc-1))) (fun _ _ _ hG=>AA (k:=1) underlying24 sizeOf50 rfl (jI (rfl)) h0 hG.fn.1.le (by rw [IY])) (fun _ _ w hG=>hG.iE.mono (fun _ hF=>hF.1.tail h0)))<|jE [[],[40],[]]) (fun r2 _=>sD f25 [0,0,2,7,15,0,63] 7 [0,2,3,4,5] [] (fun r=>[kNM,bG r2 5,zU s.ts,aU (sG (gT s.ts 0).kd),aU ((sG (gT s.ts 0).kd)++([40]:LU)),bG r 5,Jz]) (fun r=>[(5,(qy143 r 5 9)),(6,(qy139 r s.ts))]) (oO AB<|cR [[],[0]]<|pI (I4 78 kNM (zU s.ts)) (aU (sG (gT s.ts 0).kd)) (nm_at _ om)<|jC (sG (gT s.ts 0).kd) [40] 9 (by have q1:=iV (gT s.ts 0).kd;have q3:=hx;have q4:=hy;simp only [II,IJ,IK,bD,aT,lL,lM] at *;omega)<|jE [[],[41]]) (fun r3=>sS f25 2 [0,2,3,4,5,6] [] (fun r=>[bG r 0,Jz]) (fun r=>[(0,(qy143 r 0 9)),(1,(qy166 r))]) (jE [[],[2]]) (fun r4=>jJ f25 2 [0,2,3,4,5,7] [yD r3 r4,yD r3 r4] (aC (jM f25 2 [0,2,3,4,5,7,23] [] [bG r2 5,zU s.ts] [[],[0]] (aJ (aY f25 2 [0,2,3,4,5,7,23,24] [] [vF,vF] [] (xU ((gT s.ts 0).kd==2) false (jK hk rfl)<|jX 1) (oN (aC (aY f25 2 [0,2,3,4,5,7,23,31] [] [vF,vF] [] (xU ((gT s.ts 0).kd==3) false (jK hk rfl)<|jX 1) (oN (lV f25 2 [0,2,3,4,5,7,23,31] [] [vF,vF] [] (xU ((gT s.ts 0).kd==4) false (jK hk rfl)<|jX 1) (aA (oN (aY f25 2 [0,2,3,4,5,7,40] [] [vF,vF] [] (xU ((gT s.ts 0).kd==5) false (jK hk rfl)<|jX 1) (oN (aI (aH (aA (aC (jM f25 4 [0,2,3,4,5,7,48,49,50] [] [bH r2 5 35,.slice (gT s.ts 0).ka (gT s.ts 0).ks.length (gT s.ts 0).kc,DT s.ts,vi 0] Eu (aJ (lD 1 ?_))))))))))))))))))))))))
 refine fD (aY f25 1 [0,2,3,4,5,7,48,49,50,51] [] [vF] [] (xU (decide (0<(((gT s.ts 0).ks.length:Nat):Int))) false (show (decide (0<(((gT s.ts 0).ks.length:Nat):Int)))=false by as_aux_lemma=>rw [hkl];rfl)<|cN) (uF [(0,(aW (jA s.ta s.tc 1 36) s.ts.tail.length (s.tc-1))),(2,(kD ⟨#[]⟩)),(3,vz),(4,(bG r2 5)),(5,(bG r3 5)),(7,(yD r3 r4)),(48,(.slice (gT s.ts 0).ka (gT s.ts 0).ks.length (gT s.ts 0).kc)),(49,(DT s.ts)),(50,(vi 0)),(51,vF)] [(nb r2 5,(bM (aX.row (gT s.ts 0)))),(nb r3 5,(uQ ((sG (gT s.ts 0).kd)++([40]:LU)))),(nb r4 0,(cL #[kD ⟨#[]⟩] 9))] (aC (oN (bC (aF (aF (aO (aA (aC (aY f25 4 [0,2,3,5,7,61,62] [0,1,1] [bG r2 5,zU s.ts,vi (lU (gT s.ts 0).kd),vi 0] [] (cR [[],[0]]<|oO (rW (gT s.ts 0).kd)<|jX 1) (aJ (lD 3 (fD (aY f25 1 [0,2,3,5,7,61,62,63] [] [vT] [] (xU (decide (0<(lU (gT s.ts 0).kd))) true (show (decide (0<(lU (gT s.ts 0).kd)))=true by rw [show lU (gT s.ts 0).kd=2 from by rw [show (gT s.ts 0).kd=6 from hk];rfl];rfl)<|cN) (aC (oY (aI (aA (aC (aJ (jJ f25 1 [0,2,3,5,7,10,61,62,63] [kD ⟨#[]⟩] (aY f25 7 [0,2,3,5,7,10,61,62,63,64,65,66,67,68] [] (let qa:JA:=.slice s1.ta s1.ts.length s1.tc;[aW (jA s.ta s.tc 1 36) s.ts.tail.length (s.tc-1),Bo x qa,Bo x qa,aU x,qa,aU x,qa]) [] (jY 1<|zW (fun hG=>ih _ hG.fn.2.2.2.1 hG.fn.2.1)<|jX 5) (lV f25 3 [0,2,3,5,7,10,61,62,63,64,65,66,67,68,69,70] [] [yD r3 r4,aU x,oH] [(2,{ puts:=[(0,nb r3 5,(uQ (((sG (gT s.ts 0).kd)++([40]:LU))++(([]:LU)++x)))),(1,nb r4 0,Cf)]})] (jY 2<|l7 [0,1] (rX x (nb r3 5) (nb r4 0) ((sG (gT s.ts 0).kd)++([40]:LU)) ([]:LU) (by have q1:=iV (gT s.ts 0).kd;have q3:=hx;have q4:=hy;simp only [II,IJ,IK,bD,aT,lL,lM] at *;omega) dC (by have q1:=iV (gT s.ts 0).kd;have q3:=hx;have q4:=hy;simp only [II,IJ,IK,bD,aT,lL,lM] at *;omega))<|cN) (?_)))))))))))))))))))))))))
 refine aH (aA (jL f25 2 [0,2,3,5,7,10,61,62,63,64,65,66,67,68,69,70,72] [] [vi 1,vi 1] [[],[]] (mM (fD (aY f25 1 [0,2,3,5,7,10,61,62,63,64,65,66,67,68,69,70,72] [] [vT] [] (xU (decide (1<(lU (gT s.ts 0).kd))) true (show (decide (1<(lU (gT s.ts 0).kd)))=true by rw [show lU (gT s.ts 0).kd=2 from by rw [show (gT s.ts 0).kd=6 from hk];rfl];rfl)<|cN) (aC (oY (aI (aA (aC (aJ (jJ f25 1 [0,2,3,5,7,10,61,62,63,64,65,66,67,68,69,70,72] [kD ⟨#[]⟩] (aY f25 7 [0,2,3,5,7,10,61,62,63,64,65,66,67,68,69,70,72] [] (let qa:JA:=.slice s2.ta s2.ts.length s2.tc;[aW s1.ta s1.ts.length s1.tc,Bo y qa,Bo y qa,aU y,qa,aU y,qa]) [] (jY 1<|zW (fun hG=>ih2 _ hG.fn.2.2.1 hG.fn.2.1)<|jX 5) (lV f25 3 [0,2,3,5,7,10,61,62,63,64,65,66,67,68,69,70,72] [] [yD r3 r4,aU y,oH] [(2,{ puts:=[(0,nb r3 5,(uQ ((((sG (gT s.ts 0).kd)++([40]:LU))++(([]:LU)++x))++(([44]:LU)++y)))),(1,nb r4 0,Cf)]})] (jY 2<|l7 [0,1] (rX y (nb r3 5) (nb r4 0) (((sG (gT s.ts 0).kd)++([40]:LU))++(([]:LU)++x)) [44] (by have q1:=iV (gT s.ts 0).kd;have q3:=hx;have q4:=hy;simp only [II,IJ,IK,bD,aT,lL,lM] at *;omega) dC (by have q1:=iV (gT s.ts 0).kd;have q3:=hx;have q4:=hy;simp only [II,IJ,IK,bD,aT,lL,lM] at *;omega))<|cN) (aH (aA (jL f25 2 [0,2,3,5,7,10,61,62,63,64,65,66,67,68,69,70,72] [] [vi 2,vi 2] [[],[]] (mM (fD (aY f25 1 [0,2,3,5,7,10,61,62,63,64,65,66,67,68,69,70,72] [] [vF] [] (xU (decide (2<(lU (gT s.ts 0).kd))) false (show (decide (2<(lU (gT s.ts 0).kd)))=false by rw [show lU (gT s.ts 0).kd=2 from by rw [show (gT s.ts 0).kd=6 from hk];rfl];rfl)<|cN) (uF [(0,(aW s2.ta s2.ts.length s2.tc)),(2,(kD ⟨#[]⟩)),(3,vz),(5,(bG r3 5)),(7,(yD r3 r4)),(10,(aU y)),(61,(vi (lU (gT s.ts 0).kd))),(62,(vi 2)),(63,vF),(64,(BD y s2.ta s2.ts.length s2.tc)),(65,(aW s1.ta s1.ts.length s1.tc)),(66,(BD y s2.ta s2.ts.length s2.tc)),(67,(aU y)),(68,(aW s2.ta s2.ts.length s2.tc)),(69,(yD r3 r4)),(70,(aU y)),(72,(vi 2))] [(nb r3 5,(uQ ((((sG (gT s.ts 0).kd)++([40]:LU))++(([]:LU)++x))++(([44]:LU)++y)))),(nb r4 0,Cf)] (aC (oN (bC ?_))))))))))))))))))))))))
 refine aF (aF (aO (aA (aY f25 5 [2,3] [0,0] (let qa:=dH (((((sG (gT s.ts 0).kd)++([40]:LU))++(([]:LU)++x))++(([44]:LU)++y))++([41]:LU));let qb:JA:=.slice s2.ta s2.ts.length s2.tc;[aU ((((sG (gT s.ts 0).kd)++([40]:LU))++(([]:LU)++x))++(([44]:LU)++y)),kD qa,qb,kD qa,qb]) [] (cR [[0]]<|jC ((((sG (gT s.ts 0).kd)++([40]:LU))++(([]:LU)++x))++(([44]:LU)++y)) [41] 9 (by have q1:=iV (gT s.ts 0).kd;have q3:=hx;have q4:=hy;simp only [II,IJ,IK,bD,aT,lL,lM] at *;omega)<|jX 3) (aG ?_)))))
 exact mR (v:=(BD (((((sG (gT s.ts 0).kd)++([40]:LU))++(([]:LU)++x))++(([44]:LU)++y))++([41]:LU)) s2.ta s2.ts.length s2.tc)) (fun _ hS=>⟨congrArg (fun z=>IL (BD z s2.ta s2.ts.length s2.tc)) (kb6 hk),hS.dM⟩)
theorem body_all : ∀ (f : Nat) (s : Tq) (x : LU) (s' : Tq), f <= 8 -> bx f s = some (x, s') -> TxS s.ts -> qZ s.ts -> BdC s x s'
 | 0,_,_,_,_,h,_,_=>by simp [bx] at h
 | f + 1, s, x, s', hf, h, hq, ho => by
   have hp:2^f<=2^7:=Jm dC om
   have big:∀ {x:LU} {s s1:Tq},TxS s.ts->qZ s.ts->bx f s=some (x,s1)->x.length<=5200000000000:=fun a b h=>by have:=bx_len f _ _ _ a b h;omega
   unfold bx at h
   split at h
   ·exact absurd h (by simp)
   rename_i hc
   have h0:0<s.ts.length:=by omega
   have hfd:s.fst.fw=true:=by
    cases e:s.fst.fw with
    | true=>rfl
    | false=>exact absurd (Jb e) hc
   have hg:TqL s s.go:=TqL.go h0
   split at h
   ·rename_i hk
    simp only [I5.injEq,Jl.injEq] at h;rw [<- h.1,<- h.2]
    exact fun w0 hT hP=>body1_any s hk h0 hfd ho hq w0 hT hP
   split at h
   ·rename_i hk
    simp only [I5.injEq,Jl.injEq] at h;rw [<- h.1,<- h.2]
    exact fun w0 hT hP=>body2_any s hk h0 hfd ho hq w0 hT hP
   split at h
   ·exact absurd h (by simp)
   rename_i k1 k2 _ a s1 e1
   have gq:TxS s.go.ts:=fun t ht=>hq t (hg.m t ht)
   have go:qZ s.go.ts:=fun t ht=>ho t (hg.m t ht)
   have i1:=body_all f _ _ _ om e1 gq go
   split at h
   ·rename_i hk
    split at h
    ·exact absurd h (by simp)
    rename_i b2 s2 e2
    have l1:=hg.trans (EX f _ _ _ e1)
    have g2:TxS s1.ts:=fun t ht=>hq t (l1.m t ht)
    have o2:qZ s1.ts:=fun t ht=>ho t (l1.m t ht)
    have i2:=body_all f _ _ _ om e2 g2 o2
    simp only [I5.injEq,Jl.injEq] at h;rw [<- h.1,<- h.2]
    exact fun w0 hT hP=>body6_any s a s1 b2 s2 hk h0 hfd ho hq (big gq go e1) i1 (big g2 o2 e2) i2 w0 hT hP (l1.t w0 hT)
   ·split at h
    ·rename_i hk
     have hk:s.fst.kd=3\/s.fst.kd=4\/s.fst.kd=5:=by omega
     simp only [I5.injEq,Jl.injEq] at h;rw [<- h.1,<- h.2]
     exact fun w0 hT hP=>body3_any s a s1 hk h0 hfd ho hq (big gq go e1) i1 w0 hT hP
    ·exact absurd h (by simp)
def BrC (ts:List aX) (x:LU) (n:Nat):Prop:=∀ (a:OA) (c:Nat) (w0:JB),iF w0 a c ts->Calls prog 26 #[aW a ts.length c] w0 (jR (.tuple #[aU x,wR (n:Int)]) w0)
abbrev qy197:=fun p0 p1=>(.tuple #[aU p0,vi p1]:JA)
theorem rbody1_any (a:OA) (c:Nat) (ts:List aX) (hk:(gT ts 0).kd=1) (h0:0<ts.length) (hfd:(gT ts 0).fw=true) (ho:qZ ts) (hq:TxS ts) (w0:JB) (hf0:iF w0 a c ts):Calls prog 26 #[aW a ts.length c] w0 (jR (.tuple #[kD (dH (lL (gK (gT ts 0).ks 0))),vi 1]) w0):=by
 refine Calls.cW 112 (fun w=>iF w a c ts/\True) func26 rfl rfl rfl (hf0.dW.and iD) ?_
 have hkl:(gT ts 0).ks.length=1:=(by have:=C9 hfd;unfold FwP at this;omega)
 have hlen:ts.length<=1000000:=hf0.max
 refine jJ f26 2 [0,2,3] [kD ⟨#[]⟩,vi 0] (sS f26 5 [0,2,3,4] [] (fun r=>[aW a ts.length c,tY a (0*36),BB (gT ts 0),bG r 3,Jz]) (fun r=>(BH 3 r 50 4 24 (aX.row (gT ts 0)))) (jY 1<|nM (fun hG=>iF.idx (k:=.i64) underlying24 sizeOf50 hG.fn.1 rfl (show 0=((0:Nat):Int) from rfl) (show 0<ts.length from h0))<|nM (fun hG=>iF.ldA (i:=0) isAgg50 sizeOf50 hG.fn.1 (show 0<ts.length from h0))<|jE [[],[24]]) (fun r2=>aC (jM f26 2 [0,2,3,4,15] [] [bG r2 3,zU ts] [[],[0]] (aJ (aY f26 2 [0,2,3,4,15,16] [] [vT,vT] [] (xU ((gT ts 0).kd==1) true (jK hk rfl)<|jX 1) (oY (aY f26 9 [0,2,3,4] [] (let qa:=dH ((([107,101,121,40]:LU)++(gK (gT ts 0).ks 0).tx)++([41]:LU));[bH r2 3 35,.slice (gT ts 0).ka (gT ts 0).ks.length (gT ts 0).kc,pX (zM (gT ts 0).ka (0*45)),bW (dB.row (gK (gT ts 0).ks 0)),kD (dH (gK (gT ts 0).ks 0).tx),aU (([107,101,121,40]:LU)++(gK (gT ts 0).ks 0).tx),kD qa,kD qa,vi 1]) [] (cR [[],[0]]<|nM (fun hG=>wX.idx (k:=.i64) underlying48 sizeOf59 (hG.fn.1.sub _ (fH (show 0<ts.length from h0))) rfl (show 0=((0:Nat):Int) from rfl) (show 0<(gT ts 0).ks.length from (by rw [hkl];decide)))<|nM (fun hG=>wX.ldA (i:=0) isAgg59 sizeOf59 (hG.fn.1.sub _ (fH (show 0<ts.length from h0))) (show 0<(gT ts 0).ks.length from (by rw [hkl];decide)))<|zW (fun hG=>Hy (gK (gT ts 0).ks 0) (ho.gK 0 0) _ ((hG.fn.1.sub _ (fH (show 0<ts.length from h0))).sub _ (mO (show 0<(gT ts 0).ks.length from (by rw [hkl];decide)))))<|jC [107,101,121,40] (gK (gT ts 0).ks 0).tx 9 (by have q2:=hq _ (fH h0) _ (mO (show 0<(gT ts 0).ks.length by rw [hkl];decide));simp only [II,IJ,IK,bD,aT,lL,lM] at *;omega)<|jC (([107,101,121,40]:LU)++(gK (gT ts 0).ks 0).tx) [41] 9 (by have q2:=hq _ (fH h0) _ (mO (show 0<(gT ts 0).ks.length by rw [hkl];decide));simp only [II,IJ,IK,bD,aT,lL,lM] at *;omega)<|jX 2) (aG (aQ (aB ?_))))))))))
 exact mR (v:=(qy197 ((([107,101,121,40]:LU)++(gK (gT ts 0).ks 0).tx)++([41]:LU)) 1)) (fun _ hS=>⟨congrArg (fun z=>IL (qy197 z 1)) (rfl),hS.dM⟩)
theorem rbody2_any (a:OA) (c:Nat) (ts:List aX) (hk:(gT ts 0).kd=2) (h0:0<ts.length) (hfd:(gT ts 0).fw=true) (ho:qZ ts) (hq:TxS ts) (w0:JB) (hf0:iF w0 a c ts):Calls prog 26 #[aW a ts.length c] w0 (jR (.tuple #[kD (dH (lM (gT ts 0).m (gT ts 0).ks)),vi 1]) w0):=by
 refine Calls.cW 112 (fun w=>iF w a c ts/\True) func26 rfl rfl rfl (hf0.dW.and iD) ?_
 have hkl:(1<=(gT ts 0).ks.length/\(gT ts 0).ks.length<=20000)/\0<=(gT ts 0).m/\(gT ts 0).m<4294967296:=(by have:=C9 hfd;unfold FwP at this;omega)
 have hlen:ts.length<=1000000:=hf0.max
 refine jJ f26 2 [0,2,3] [kD ⟨#[]⟩,vi 0] (sS f26 5 [0,2,3,4] [] (fun r=>[aW a ts.length c,tY a (0*36),BB (gT ts 0),bG r 3,Jz]) (fun r=>(BH 3 r 50 4 24 (aX.row (gT ts 0)))) (jY 1<|nM (fun hG=>iF.idx (k:=.i64) underlying24 sizeOf50 hG.fn.1 rfl (show 0=((0:Nat):Int) from rfl) (show 0<ts.length from h0))<|nM (fun hG=>iF.ldA (i:=0) isAgg50 sizeOf50 hG.fn.1 (show 0<ts.length from h0))<|jE [[],[24]]) (fun r2=>aC (jM f26 2 [0,2,3,4,15] [] [bG r2 3,zU ts] [[],[0]] (aJ (aY f26 2 [0,2,3,4,15,16] [] [vF,vF] [] (xU ((gT ts 0).kd==1) false (jK hk rfl)<|jX 1) (oN (aY f26 2 [0,2,3,4,25] [] [vT,vT] [] (xU ((gT ts 0).kd==2) true (jK hk rfl)<|jX 1) (oY (aY f26 6 [0,2,3,4,5] [] (let qa:=dH (([109,117,108,116,105,40]:LU)++(dS (gT ts 0).m.toNat));[bH r2 3 1,vi (gT ts 0).m,vu ((gT ts 0).m.toNat),aU (dS (gT ts 0).m.toNat),kD qa,kD qa]) [] (cR [[],[0]]<|eU (vu ((gT ts 0).m.toNat)) (jN (txM hkl.2))<|oO (xE (gT ts 0).m.toNat om)<|jC [109,117,108,116,105,40] (dS (gT ts 0).m.toNat) 9 (by have q2:=fA (n:=(gT ts 0).m.toNat) (by omega);have q5:=hkl;simp only [II,IJ,IK,bD,aT,lL,lM] at *;omega)<|jX 1) (aC (jJ f26 1 [0,2,3,4,5,6] [vi 0] (aJ ?_))))))))))))
 refine oL (σ:=Nat × (LU)) (fun ⟨j,S⟩=>[(0,(aW a ts.length c)),(2,(kD ⟨#[]⟩)),(3,(vi 0)),(4,(bG r2 3)),(5,(aU S)),(6,(vn j))]) (fun ⟨_,_⟩=>[(nb r2 3,(bM (aX.row (gT ts 0))))]) (fun ⟨j,_⟩=>(gT ts 0).ks.length-j)
  (fun ⟨j,S⟩=>(j<=(gT ts 0).ks.length)/\(S=([109,117,108,116,105,40]++dS (gT ts 0).m.toNat)++vZ ((gT ts 0).ks.take j))) (0,([109,117,108,116,105,40]++dS (gT ts 0).m.toNat)) (⟨IU _,(Jf _).symm⟩) [] ?_
 rintro ⟨j,S⟩ ⟨hj,hZ⟩
 refine aC (jM f26 5 [0,2,3,4,5,6,36] [] [vn j,bH r2 3 35,.slice (gT ts 0).ka (gT ts 0).ks.length (gT ts 0).kc,DT ts,.bool (decide ((j:Int)<(((gT ts 0).ks.length:Nat):Int)))] [[],[],[0],[],[]] (oC (decide ((j:Int)<(((gT ts 0).ks.length:Nat):Int))) (fun b1=>?_) (fun b1=>?_)))
 ·rw [b1]
  have:=yT b1
  have zh1:j<(gT ts 0).ks.length:=om
  refine aI (aA (aC (aJ (lV f26 10 [0,2,3,4,5,6] [] (let qa:=dH ((S++([44]:LU))++(gK (gT ts 0).ks j).tx);[aU S,aU (S++([44]:LU)),bH r2 3 35,.slice (gT ts 0).ka (gT ts 0).ks.length (gT ts 0).kc,vn j,pX (zM (gT ts 0).ka (j*45)),bW (dB.row (gK (gT ts 0).ks j)),kD (dH (gK (gT ts 0).ks j).tx),kD qa,kD qa]) [] (jY 1<|jC S [44] 9 (by have q2:=fA (n:=(gT ts 0).m.toNat) (by omega);have q5:=hkl;have q3:=kb_len hZ (hq _ (fH h0));have q7:=kb_ge hZ;simp only [II,IJ,IK,bD,aT,lL,lM] at *;omega)<|cR nS<|nM (fun hG=>wX.idx (k:=.i64) underlying48 sizeOf59 (hG.fn.1.sub _ (fH (show 0<ts.length from h0))) rfl (show (j:Int)=(j:Int) from rfl) zh1)<|nM (fun hG=>wX.ldA (i:=j) isAgg59 sizeOf59 (hG.fn.1.sub _ (fH (show 0<ts.length from h0))) zh1)<|zW (fun hG=>Hy (gK (gT ts 0).ks j) (ho.gK 0 j) _ ((hG.fn.1.sub _ (fH (show 0<ts.length from h0))).sub _ (mO zh1)))<|jC (S++([44]:LU)) (gK (gT ts 0).ks j).tx 9 (by have q2:=fA (n:=(gT ts 0).m.toNat) (by omega);have q5:=hkl;have q3:=kb_len hZ (hq _ (fH h0));have q7:=kb_ge hZ;have q6:=hq _ (fH h0) _ (mO zh1);simp only [II,IJ,IK,bD,aT,lL,lM] at *;omega)<|jX 1) (aH (aA (lV f26 3 [0,2,3,4,5,6] [] [vn j,vn (j+1),vn (j+1)] [] (jY 1<|oD (bF j 1 om)<|jX 1) (?_))))))))
  exact mN (j+1,(S++([44]:LU))++(gK (gT ts 0).ks j).tx) (by show (gT ts 0).ks.length-(j+1)<(gT ts 0).ks.length-j;omega) (⟨om,kb_r om hZ⟩) []
 rw [b1]
 refine bC (aF (aF (aO (aA (aY f26 4 [0,2,3,4] [] [aU S,aU (S++([41]:LU)),aU (S++([41]:LU)),vi 1] [] (jY 1<|jC S [41] 9 (by have q2:=fA (n:=(gT ts 0).m.toNat) (by omega);have q5:=hkl;have q3:=kb_len hZ (hq _ (fH h0));have q7:=kb_ge hZ;simp only [II,IJ,IK,bD,aT,lL,lM] at *;omega)<|jX 2) (aG (aQ (aB ?_))))))))
 exact mR (v:=(qy197 (S++([41]:LU)) 1)) (fun _ hS=>⟨congrArg (fun z=>IL (qy197 z 1)) (kb_e (oA (yF b1)) hZ),hS.dM⟩)
abbrev xR:=fun p0 p1=>(.tuple #[aU p0,vn p1]:JA)
theorem rbody3_any (a:OA) (c:Nat) (ts:List aX) (x:LU) (n:Nat) (hk:(gT ts 0).kd=3\/(gT ts 0).kd=4\/(gT ts 0).kd=5) (h0:0<ts.length) (hfd:(gT ts 0).fw=true) (ho:qZ ts) (_hq:TxS ts) (hx:x.length<=5200000000000) (hn9:n<=1000000) (ih:BrC ts.tail x n) (w0:JB) (hf0:iF w0 a c ts):Calls prog 26 #[aW a ts.length c] w0 (jR (.tuple #[kD (dH (slT (gT ts 0).kd (gT ts 0).nu (gT ts 0).h x)),vn (n+1)]) w0):=by
 refine Calls.cW 112 (fun w=>iF w a c ts/\True) func26 rfl rfl rfl (hf0.dW.and iD) ?_
 have hkl:(gT ts 0).ks.length=0:=(by have:=C9 hfd;unfold FwP at this;omega)
 have hlen:ts.length<=1000000:=hf0.max
 refine jJ f26 2 [0,2,3] [kD ⟨#[]⟩,vi 0] (sS f26 5 [0,2,3,4] [] (fun r=>[aW a ts.length c,tY a (0*36),BB (gT ts 0),bG r 3,Jz]) (fun r=>(BH 3 r 50 4 24 (aX.row (gT ts 0)))) (jY 1<|nM (fun hG=>iF.idx (k:=.i64) underlying24 sizeOf50 hG.fn.1 rfl (show 0=((0:Nat):Int) from rfl) (show 0<ts.length from h0))<|nM (fun hG=>iF.ldA (i:=0) isAgg50 sizeOf50 hG.fn.1 (show 0<ts.length from h0))<|jE [[],[24]]) (fun r2=>aC (jM f26 2 [0,2,3,4,15] [] [bG r2 3,zU ts] [[],[0]] (aJ (aY f26 2 [0,2,3,4,15,16] [] [vF,vF] [] (xU ((gT ts 0).kd==1) false (beq_f (show (gT ts 0).kd≠1 by have e:(gT ts 0).kd=(gT ts 0).kd:=rfl;omega))<|jX 1) (oN (aY f26 2 [0,2,3,4,25] [] [vF,vF] [] (xU ((gT ts 0).kd==2) false (beq_f (show (gT ts 0).kd≠2 by have e:(gT ts 0).kd=(gT ts 0).kd:=rfl;omega))<|jX 1) (oN (aI (aH (aA (wW f26 8 [0,2,3,4,7,8] [] (fun _=>[aW a ts.length c,aW (jA a c 1 36) ts.tail.length (c-1),xR x n,xR x n,aU x,vn n,aU x,vn n]) eN (fun _=>[(1,fun w=>iF w (jA a c 1 36) (c-1) ts.tail)]) (fun _=>(fun w=>iF w a c ts/\iF w (jA a c 1 36) (c-1) ts.tail/\True)) (fun _=>True) (fun _ _ hF hf=>⟨⟨hF.1,hf 1,trivial⟩,trivial⟩) (jY 1<|cX (jF (fun _=>IZ 24 (aW a ts.length c) qy208 none none) (fun _=>(aW (jA a c 1 36) ts.tail.length (c-1))) (fun _ _ _ hG=>AA (k:=1) underlying24 sizeOf50 rfl (jI (rfl)) h0 hG.fn.1.le (by rw [IY])) (fun _ _ w hG=>hG.iE.mono (fun _ hF=>hF.1.tail h0)))<|cX (qC (fun _ _ w hG=>ih (jA a c 1 36) (c-1) w (show iF w (jA a c 1 36) (c-1) ts.tail from (hG.facts 1 rfl).now)))<|jX 5) (fun _ _=>aC (jM f26 2 [0,2,3,4,7,8,57] [] [bG r2 3,zU ts] [[],[0]] (aJ (jJ f26 2 [0,2,3,4,7,8,57,58] [.bool ((gT ts 0).kd==3),.bool ((gT ts 0).kd==3)] (oC ((gT ts 0).kd==3) (fun b1=>?_) (fun b1=>?_))))))))))))))))))
 ·rw [b1]
  refine aY f26 12 [0,2,3,7,8] [0] (let qa:=([97,102,116,101,114,40]:LU);let qb:=dH ((((qa++(dS (gT ts 0).nu))++([44]:LU))++x)++([41]:LU));[bH r2 3 2,vu ((gT ts 0).nu),aU (dS (gT ts 0).nu),aU (qa++(dS (gT ts 0).nu)),aU ((qa++(dS (gT ts 0).nu))++([44]:LU)),aU x,aU (((qa++(dS (gT ts 0).nu))++([44]:LU))++x),kD qb,vn n,vn (n+1),kD qb,vn (n+1)]) [] (cR [[],[0]]<|oO (xE (gT ts 0).nu (ho.gT 0).nu)<|jC [97,102,116,101,114,40] (dS (gT ts 0).nu) 9 (by have q2:=fA (n:=(gT ts 0).nu) (oA ((ho.gT 0).nu));have q3:=hx;simp only [II,IJ,IK,bD,aT,lL,lM] at *;omega)<|jC (([97,102,116,101,114,40]:LU)++(dS (gT ts 0).nu)) [44] 9 (by have q2:=fA (n:=(gT ts 0).nu) (oA ((ho.gT 0).nu));have q3:=hx;simp only [II,IJ,IK,bD,aT,lL,lM] at *;omega)<|jY 1<|jC ((([97,102,116,101,114,40]:LU)++(dS (gT ts 0).nu))++([44]:LU)) x 9 (by have q2:=fA (n:=(gT ts 0).nu) (oA ((ho.gT 0).nu));have q3:=hx;simp only [II,IJ,IK,bD,aT,lL,lM] at *;omega)<|jC (((([97,102,116,101,114,40]:LU)++(dS (gT ts 0).nu))++([44]:LU))++x) [41] 9 (by have q2:=fA (n:=(gT ts 0).nu) (oA ((ho.gT 0).nu));have q3:=hx;simp only [II,IJ,IK,bD,aT,lL,lM] at *;omega)<|jY 1<|oD (bF n 1 om)<|jX 2) (aG (aQ (aB ?_)))
  exact mR (v:=(xR ((((([97,102,116,101,114,40]:LU)++(dS (gT ts 0).nu))++([44]:LU))++x)++([41]:LU)) (n+1))) (fun _ hS=>⟨congrArg (fun z=>IL (xR z (n+1))) (rl3 (oA (F6 b1))),hS.dM⟩)
 rw [b1]
 refine jJ f26 2 [0,2,3,4,7,8,57,70] [.bool ((gT ts 0).kd==4),.bool ((gT ts 0).kd==4)] (oC ((gT ts 0).kd==4) (fun b2=>?_) (fun b2=>?_))
 ·rw [b2]
  refine aY f26 12 [0,2,3,7,8] [0] (let qa:=([111,108,100,101,114,40]:LU);let qb:=dH ((((qa++(dS (gT ts 0).nu))++([44]:LU))++x)++([41]:LU));[bH r2 3 2,vu ((gT ts 0).nu),aU (dS (gT ts 0).nu),aU (qa++(dS (gT ts 0).nu)),aU ((qa++(dS (gT ts 0).nu))++([44]:LU)),aU x,aU (((qa++(dS (gT ts 0).nu))++([44]:LU))++x),kD qb,vn n,vn (n+1),kD qb,vn (n+1)]) [] (cR [[],[0]]<|oO (xE (gT ts 0).nu (ho.gT 0).nu)<|jC [111,108,100,101,114,40] (dS (gT ts 0).nu) 9 (by have q2:=fA (n:=(gT ts 0).nu) (oA ((ho.gT 0).nu));have q3:=hx;simp only [II,IJ,IK,bD,aT,lL,lM] at *;omega)<|jC (([111,108,100,101,114,40]:LU)++(dS (gT ts 0).nu)) [44] 9 (by have q2:=fA (n:=(gT ts 0).nu) (oA ((ho.gT 0).nu));have q3:=hx;simp only [II,IJ,IK,bD,aT,lL,lM] at *;omega)<|jY 1<|jC ((([111,108,100,101,114,40]:LU)++(dS (gT ts 0).nu))++([44]:LU)) x 9 (by have q2:=fA (n:=(gT ts 0).nu) (oA ((ho.gT 0).nu));have q3:=hx;simp only [II,IJ,IK,bD,aT,lL,lM] at *;omega)<|jC (((([111,108,100,101,114,40]:LU)++(dS (gT ts 0).nu))++([44]:LU))++x) [41] 9 (by have q2:=fA (n:=(gT ts 0).nu) (oA ((ho.gT 0).nu));have q3:=hx;simp only [II,IJ,IK,bD,aT,lL,lM] at *;omega)<|jY 1<|oD (bF n 1 om)<|jX 2) (aG (aQ (aB ?_)))
  exact mR (v:=(xR ((((([111,108,100,101,114,40]:LU)++(dS (gT ts 0).nu))++([44]:LU))++x)++([41]:LU)) (n+1))) (fun _ hS=>⟨congrArg (fun z=>IL (xR z (n+1))) (rl4 (oB (rJ b1) (F6 b2))),hS.dM⟩)
 rw [b2]
 refine aY f26 2 [0,2,3,4,7,8,82] [] [vT,vT] [] (xU ((gT ts 0).kd==5) true (slT_q (show (gT ts 0).kd=5 by have e:(gT ts 0).kd=(gT ts 0).kd:=rfl;have:=rJ b1;have:=rJ b2;omega))<|jX 1) (oY (aY f26 12 [0,2,3,7,8] [0] (let qa:=([104,97,115,104,40]:LU);let qb:=dH ((((qa++(kU (hL (gT ts 0).h)))++([44]:LU))++x)++([41]:LU));[jp (nb r2 3) 3,CP (hL (gT ts 0).h) (some ⟨nb r2 3,3,none⟩),aU (kU (hL (gT ts 0).h)),aU (qa++(kU (hL (gT ts 0).h))),aU ((qa++(kU (hL (gT ts 0).h)))++([44]:LU)),aU x,aU (((qa++(kU (hL (gT ts 0).h)))++([44]:LU))++x),kD qb,vn n,vn (n+1),kD qb,vn (n+1)]) [] (jY 2<|zW (fun hG=>Ip (some ⟨nb r2 3,3,none⟩) 32 (hL (gT ts 0).h) (by rw [aT];decide) _ (Bs.of_term (hG.kn (g:=nb r2 3) (o:=(bM (aX.row (gT ts 0)))) 0)))<|jC [104,97,115,104,40] (kU (hL (gT ts 0).h)) 9 (by have q2:=fA (n:=(gT ts 0).nu) (oA ((ho.gT 0).nu));have q3:=hx;simp only [II,IJ,IK,bD,aT,lL,lM] at *;omega)<|jC (([104,97,115,104,40]:LU)++(kU (hL (gT ts 0).h))) [44] 9 (by have q2:=fA (n:=(gT ts 0).nu) (oA ((ho.gT 0).nu));have q3:=hx;simp only [II,IJ,IK,bD,aT,lL,lM] at *;omega)<|jY 1<|jC ((([104,97,115,104,40]:LU)++(kU (hL (gT ts 0).h)))++([44]:LU)) x 9 (by have q2:=fA (n:=(gT ts 0).nu) (oA ((ho.gT 0).nu));have q3:=hx;simp only [II,IJ,IK,bD,aT,lL,lM] at *;omega)<|jC (((([104,97,115,104,40]:LU)++(kU (hL (gT ts 0).h)))++([44]:LU))++x) [41] 9 (by have q2:=fA (n:=(gT ts 0).nu) (oA ((ho.gT 0).nu));have q3:=hx;simp only [II,IJ,IK,bD,aT,lL,lM] at *;omega)<|jY 1<|oD (bF n 1 om)<|jX 2) (aG (aQ (aB ?_)))))
 exact mR (v:=(xR ((((([104,97,115,104,40]:LU)++(kU (hL (gT ts 0).h)))++([44]:LU))++x)++([41]:LU)) (n+1))) (fun _ hS=>⟨congrArg (fun z=>IL (xR z (n+1))) (rl5 (oB (rJ b1) (rJ b2))),hS.dM⟩)
theorem rbody6_any (a:OA) (c:Nat) (ts:List aX) (x:LU) (n:Nat) (y:LU) (i:Nat) (hk:(gT ts 0).kd=6) (h0:0<ts.length) (hfd:(gT ts 0).fw=true) (_ho:qZ ts) (_hq:TxS ts) (hx:x.length<=5200000000000) (hn9:n<=1000000) (ih:BrC ts.tail x n) (hy:y.length<=5200000000000) (hi9:i<=1000000) (hn:1+n<=ts.length) (ih2:BrC (ts.drop (1+n)) y i) (w0:JB) (hf0:iF w0 a c ts):Calls prog 26 #[aW a ts.length c] w0 (jR (.tuple #[kD (dH (eiT x y)),vn (n+i+1)]) w0):=by
 refine Calls.cW 112 (fun w=>iF w a c ts/\True) func26 rfl rfl rfl (hf0.dW.and iD) ?_
 have hkl:(gT ts 0).ks.length=0:=(by have:=C9 hfd;unfold FwP at this;omega)
 have hlen:ts.length<=1000000:=hf0.max
 refine jJ f26 2 [0,2,3] [kD ⟨#[]⟩,vi 0] (sS f26 5 [0,2,3,4] [] (fun r=>[aW a ts.length c,tY a (0*36),BB (gT ts 0),bG r 3,Jz]) (fun r=>(BH 3 r 50 4 24 (aX.row (gT ts 0)))) (jY 1<|nM (fun hG=>iF.idx (k:=.i64) underlying24 sizeOf50 hG.fn.1 rfl (show 0=((0:Nat):Int) from rfl) (show 0<ts.length from h0))<|nM (fun hG=>iF.ldA (i:=0) isAgg50 sizeOf50 hG.fn.1 (show 0<ts.length from h0))<|jE [[],[24]]) (fun r2=>aC (jM f26 2 [0,2,3,4,15] [] [bG r2 3,zU ts] [[],[0]] (aJ (aY f26 2 [0,2,3,4,15,16] [] [vF,vF] [] (xU ((gT ts 0).kd==1) false (jK hk rfl)<|jX 1) (oN (aY f26 2 [0,2,3,4,25] [] [vF,vF] [] (xU ((gT ts 0).kd==2) false (jK hk rfl)<|jX 1) (oN (aI (aH (aA (wW f26 8 [0,2,3,4,7,8] [] (fun _=>[aW a ts.length c,aW (jA a c 1 36) ts.tail.length (c-1),xR x n,xR x n,aU x,vn n,aU x,vn n]) eN (fun _=>[(1,fun w=>iF w (jA a c 1 36) (c-1) ts.tail)]) (fun _=>(fun w=>iF w a c ts/\iF w (jA a c 1 36) (c-1) ts.tail/\True)) (fun _=>True) (fun _ _ hF hf=>⟨⟨hF.1,hf 1,trivial⟩,trivial⟩) (jY 1<|cX (jF (fun _=>IZ 24 (aW a ts.length c) qy208 none none) (fun _=>(aW (jA a c 1 36) ts.tail.length (c-1))) (fun _ _ _ hG=>AA (k:=1) underlying24 sizeOf50 rfl (jI (rfl)) h0 hG.fn.1.le (by rw [IY])) (fun _ _ w hG=>hG.iE.mono (fun _ hF=>hF.1.tail h0)))<|cX (qC (fun _ _ w hG=>ih (jA a c 1 36) (c-1) w (show iF w (jA a c 1 36) (c-1) ts.tail from (hG.facts 1 rfl).now)))<|jX 5) (fun _ _=>aC (jM f26 2 [0,2,3,4,7,8,57] [] [bG r2 3,zU ts] [[],[0]] (aJ (aY f26 2 [0,2,3,4,7,8,57,58] [] [vF,vF] [] (xU ((gT ts 0).kd==3) false (jK hk rfl)<|jX 1) (oN (aY f26 2 [0,2,3,4,7,8,57,70] [] [vF,vF] [] (xU ((gT ts 0).kd==4) false (jK hk rfl)<|jX 1) (oN (aY f26 2 [0,2,3,4,7,8,82] [] [vF,vF] [] (xU ((gT ts 0).kd==5) false (jK hk rfl)<|jX 1) (oN (aI (aH (aA ?_))))))))))))))))))))))))
 refine wW f26 10 [2,3,7,8,9,10] [0] (fun _=>[aW a ts.length c,vn n,vn (1+n),gW (ts.drop (1+n)) (jA a c (1+n) 36) (c-(1+n)),xR y i,xR y i,aU y,vn i,aU y,vn i]) eN (fun _=>[(3,fun w=>iF w (jA a c (1+n) 36) (c-(1+n)) (ts.drop (1+n)))]) (fun _=>(fun w=>iF w a c ts/\iF w (jA a c 1 36) (c-1) ts.tail/\iF w (jA a c (1+n) 36) (c-(1+n)) (ts.drop (1+n))/\True)) (fun _=>True) (fun _ _ hF hf=>⟨⟨hF.1,hF.2.1,hf 3,trivial⟩,trivial⟩) (jY 2<|oD (bF 1 n om)<|cX (jF (fun _=>IZ 24 (aW a ts.length c) (sJ (1+n)) none none) (fun _=>(gW (ts.drop (1+n)) (jA a c (1+n) 36) (c-(1+n)))) (fun _ _ _ hG=>AA (k:=1+n) underlying24 sizeOf50 rfl (jI (rfl)) hn hG.fn.1.le (by rw [Jj])) (fun _ _ w hG=>hG.iE.mono (fun _ hF=>hF.1.drop hn)))<|cX (qC (fun _ _ w hG=>ih2 (jA a c (1+n) 36) (c-(1+n)) w (show iF w (jA a c (1+n) 36) (c-(1+n)) (ts.drop (1+n)) from (hG.facts 3 rfl).now)))<|jX 5) (fun _ _=>aY f26 12 [2,3] [] (let qa:=([101,105,116,104,101,114,40]:LU);let qb:=dH ((((qa++x)++([44]:LU))++y)++([41]:LU));[aU x,aU (qa++x),aU ((qa++x)++([44]:LU)),aU y,aU (((qa++x)++([44]:LU))++y),kD qb,vn n,vn i,vn (n+i),vn ((n+i)+1),kD qb,vn ((n+i)+1)]) [] (jY 1<|jC [101,105,116,104,101,114,40] x 9 (by have q3:=hx;have q4:=hy;simp only [II,IJ,IK,bD,aT,lL,lM] at *;omega)<|jC (([101,105,116,104,101,114,40]:LU)++x) [44] 9 (by have q3:=hx;have q4:=hy;simp only [II,IJ,IK,bD,aT,lL,lM] at *;omega)<|jY 1<|jC ((([101,105,116,104,101,114,40]:LU)++x)++([44]:LU)) y 9 (by have q3:=hx;have q4:=hy;simp only [II,IJ,IK,bD,aT,lL,lM] at *;omega)<|jC (((([101,105,116,104,101,114,40]:LU)++x)++([44]:LU))++y) [41] 9 (by have q3:=hx;have q4:=hy;simp only [II,IJ,IK,bD,aT,lL,lM] at *;omega)<|jY 2<|oD (bF n i om)<|oD (bF (n+i) 1 om)<|jX 2) (aG ?_))
 exact mR (v:=(xR ((((([101,105,116,104,101,114,40]:LU)++x)++([44]:LU))++y)++([41]:LU)) ((n+i)+1))) (fun _ hS=>⟨congrArg (fun z=>IL (xR z (n+i+1))) (rfl),hS.dM⟩)
theorem rbody_all : ∀ (f : Nat) (s : Tq) (x : LU) (s' : Tq), f <= 8 -> bx f s = some (x, s') -> TxS s.ts -> qZ s.ts -> s.ts.length <= 1000000 -> ∃ n, BrC s.ts x n /\ s'.ts = s.ts.drop n /\ n <= s.ts.length
 | 0,_,_,_,_,h,_,_,_=>by simp [bx] at h
 | f + 1, s, x, s', hf, h, hq, ho, hl => by
   have hp:2^f<=2^7:=Jm dC om
   have big:∀ {x:LU} {s s1:Tq},TxS s.ts->qZ s.ts->bx f s=some (x,s1)->x.length<=5200000000000:=fun a b h=>by have:=bx_len f _ _ _ a b h;omega
   unfold bx at h
   split at h
   ·exact absurd h (by simp)
   rename_i hc
   have h0:0<s.ts.length:=by omega
   have hfd:s.fst.fw=true:=by
    cases e:s.fst.fw with
    | true=>rfl
    | false=>exact absurd (Jb e) hc
   have hg:TqL s s.go:=TqL.go h0
   split at h
   ·rename_i hk
    simp only [I5.injEq,Jl.injEq] at h;rw [<- h.1,<- h.2]
    exact ⟨1,fun a c w0 hT=>rbody1_any a c s.ts hk h0 hfd ho hq w0 hT,Jr.symm,h0⟩
   split at h
   ·rename_i hk
    simp only [I5.injEq,Jl.injEq] at h;rw [<- h.1,<- h.2]
    exact ⟨1,fun a c w0 hT=>rbody2_any a c s.ts hk h0 hfd ho hq w0 hT,Jr.symm,h0⟩
   split at h
   ·exact absurd h (by simp)
   rename_i k1 k2 _ a s1 e1
   have gq:TxS s.go.ts:=fun t ht=>hq t (hg.m t ht)
   have go:qZ s.go.ts:=fun t ht=>ho t (hg.m t ht)
   have et:s.go.ts=s.ts.tail:=rfl
   obtain ⟨n,i1,q1,q3⟩:=rbody_all f _ _ _ om e1 gq go (by rw [et,IY];omega)
   rw [et] at i1 q1 q3
   rw [IY] at q3
   have d1:s.ts.tail.drop n=s.ts.drop (n+1):=by rw [<- Jr,List.drop_drop,Nat.add_comm]
   split at h
   ·rename_i hk
    split at h
    ·exact absurd h (by simp)
    rename_i b2 s2 e2
    have l1:=hg.trans (EX f _ _ _ e1)
    have g2:TxS s1.ts:=fun t ht=>hq t (l1.m t ht)
    have o2:qZ s1.ts:=fun t ht=>ho t (l1.m t ht)
    have t1:s1.ts=s.ts.drop (1+n):=by rw [q1,d1,Nat.add_comm]
    obtain ⟨i,i2,r1,r3⟩:=rbody_all f _ _ _ om e2 g2 o2 (by rw [t1,Jj];omega)
    have big2:=big g2 o2 e2
    rw [t1] at i2 r1 r3
    rw [Jj] at r3
    simp only [I5.injEq,Jl.injEq] at h;rw [<- h.1,<- h.2]
    refine ⟨n+i+1,fun a' c w0 hT=>rbody6_any a' c s.ts a n b2 i hk h0 hfd ho hq (big gq go e1) om i1 big2 om om i2 w0 hT,?_,by omega⟩
    rw [r1,List.drop_drop];congr 1;omega
   ·split at h
    ·rename_i hk
     have hk:s.fst.kd=3\/s.fst.kd=4\/s.fst.kd=5:=by omega
     simp only [I5.injEq,Jl.injEq] at h;rw [<- h.1,<- h.2]
     exact ⟨n+1,fun a' c w0 hT=>rbody3_any a' c s.ts a n hk h0 hfd ho hq (big gq go e1) om i1 w0 hT,q1.trans d1,by omega⟩
    ·exact absurd h (by simp)
section
def txE (ts:List aX):Int:=if xJ ts=true then (if 16384<(uB ts).length+9 then 4 else 0) else 260
def kG (ts:List aX):LU:=if txE ts=0 then uB ts++([35]++kU ((hL (l9 wS (uB ts))).take 4)) else []
theorem F8 (S:LU):(kU ((hL (l9 wS S)).take 4)).length=8:=by rw [bD,I8,aT];decide
section
variable {ts:List aX}
theorem tx_bad (h:xJ ts=false):txE ts=260/\kG ts=[]:=by
 have e:txE ts=260:=by unfold txE;rw [h];rfl
 exact ⟨e,by unfold kG;rw [e];rfl⟩
theorem tx_long (h:xJ ts=true) (h1:16384<(uB ts).length+9):txE ts=4/\kG ts=[]:=by
 have e:txE ts=4:=by unfold txE;rw [if_pos h,if_pos h1]
 exact ⟨e,by unfold kG;rw [e];rfl⟩
theorem tx_ok (h:xJ ts=true) (h1: ¬ 16384<(uB ts).length+9):txE ts=0/\kG ts=uB ts++([35]++kU ((hL (l9 wS (uB ts))).take 4)):=by
 have e:txE ts=0:=by unfold txE;rw [if_pos h,if_neg h1]
 exact ⟨e,by unfold kG;rw [if_pos e]⟩
end
abbrev qy218:=fun p0=>(.tuple #[kD ⟨#[]⟩,vi p0]:JA)
theorem rdtextw_any (a:OA) (c:Nat) (ts:List aX) (n:Nat) (hB:xJ ts=true->BrC ts (uB ts) n) (w0:JB) (hf0:iF w0 a c ts):Calls prog 11 #[aW a ts.length c] w0 (jR (.tuple #[kD (dH (kG ts)),vi (txE ts)]) w0):=by
 refine Calls.cW 23 (fun w=>iF w a c ts/\True) func11 rfl rfl rfl (hf0.dW.and iD) (jJ f11 2 [0,2,3] [kD ⟨#[]⟩,vi 0] (aC (aY f11 3 [0,2,3,8] [] [aW a ts.length c,.bool (xJ ts),.bool (!(xJ ts))] [] (jY 1<|zW (fun hG=>rdvalid_any a c ts _ hG.fn.1)<|jX 1) (oC (!(xJ ts)) (fun b1=>?_) (fun b1=>?_)))))
 ·rw [b1]
  refine jJ f11 2 [0,2,3] [kD ⟨#[]⟩,vi 260] (aG (aB ?_))
  exact mR (v:=(qy218 260)) (fun _ hS=>⟨by rw [(tx_bad (kP b1)).1,(tx_bad (kP b1)).2]<;>rfl,hS.dM⟩)
 rw [b1]
 refine aI (aA (aY f11 7 [2,3,4] [] [aW a ts.length c,xR (uB ts) n,xR (uB ts) n,aU (uB ts),vn n,aU (uB ts),vn n] [] (jY 1<|zW (fun hG=>hB (dI b1) a c _ hG.fn.1)<|jX 5) (aC (aY f11 4 [2,3,4,17] [] [aU (uB ts),Ik (uB ts),vi ((((uB ts).length:Nat):Int)+9),.bool (decide (16384<((((uB ts).length:Nat):Int)+9)))] [] (jY 2<|FC ((((uB ts).length:Nat):Int)+9) (by have q:=(Ie (dI b1) hf0.oks).2;omega)<|jX 1) (oC (decide (16384<((((uB ts).length:Nat):Int)+9))) (fun b2=>?_) (fun b2=>?_))))))
 ·rw [b2]
  refine jJ f11 2 [2,3,4] [kD ⟨#[]⟩,vi 4] (aG (aB ?_))
  exact mR (v:=(qy218 4)) (fun _ hS=>⟨by rw [(tx_long (dI b1) (by have q1:=yT b2;have q2:=F8 (uB ts);simp only [II,IJ,IK] at *;omega)).1,(tx_long (dI b1) (by have q1:=yT b2;have q2:=F8 (uB ts);simp only [II,IJ,IK] at *;omega)).2]<;>rfl,hS.dM⟩)
 rw [b2]
 refine aI (aA (aY f11 7 [2,3] [] (let qa:=dH (((uB ts)++([35]:LU))++(kU ((hL (l9 wS (uB ts))).take 4)));[aU (uB ts),aU ((uB ts)++([35]:LU)),aU (uB ts),aU (kU ((hL (l9 wS (uB ts))).take 4)),kD qa,kD qa,vi 0]) [] (jY 1<|jC (uB ts) [35] 9 (by have q:=(Ie (dI b1) hf0.oks).2;have q2:=F8 (uB ts);simp only [II,IJ,IK] at *;omega)<|jY 1<|oO (Fp (uB ts) (by have q:=(Ie (dI b1) hf0.oks).2;omega))<|jC ((uB ts)++([35]:LU)) (kU ((hL (l9 wS (uB ts))).take 4)) 9 (by have q:=(Ie (dI b1) hf0.oks).2;have q2:=F8 (uB ts);simp only [II,IJ,IK] at *;omega)<|jX 2) (aG ?_)))
 exact mR (v:=(qy197 (((uB ts)++([35]:LU))++(kU ((hL (l9 wS (uB ts))).take 4))) 0)) (fun _ hS=>⟨by rw [(tx_ok (dI b1) (by have q1:=yF b2;have q2:=F8 (uB ts);simp only [II,IJ,IK] at *;omega)).1,(tx_ok (dI b1) (by have q1:=yF b2;have q2:=F8 (uB ts);simp only [II,IJ,IK] at *;omega)).2];simp only [List.append_assoc],hS.dM⟩)
theorem rdtext_any (a:OA) (c:Nat) (ts:List aX) (w0:JB) (hf0:iF w0 a c ts):Calls prog 11 #[aW a ts.length c] w0 (jR (.tuple #[kD (dH (kG ts)),wR (txE ts)]) w0):=by
 by_cases hv:xJ ts=true
 ·obtain ⟨s', h⟩ := bx_go hv none 0
  obtain ⟨n,h1,_⟩:=rbody_all 8 _ _ _ (IP 8) h (Ie hv hf0.oks).1 hf0.oks hf0.max
  exact rdtextw_any a c ts n (fun _=>h1) w0 hf0
 ·exact rdtextw_any a c ts 0 (fun h=>absurd h hv) w0 hf0
end
variable {i a:Nat} {S:LU}
def dV (S:LU) (i:Nat):Nat:=gB S i-48
def rO (S:LU):Nat->Nat
 | 0=>0
 | i+1=>10*rO S i+dV S i
def isD (S:LU) (i:Nat):Prop:=48<=gB S i/\gB S i<=57
def allD (S:LU) (n:Nat):Prop:=∀ j,j<n->isD S j
instance (S:LU) (i:Nat):Decidable (isD S i):=inferInstanceAs (Decidable (_/\_))
instance (S:LU) (n:Nat):Decidable (allD S n):=inferInstanceAs (Decidable (∀ j,j<n->isD S j))
theorem allD_zero (S:LU):allD S 0:=fun j h=>absurd h om
theorem allD_next (h:allD S i) (h1:decide (((gB S i:Nat):Int)<48)=false) (h2:decide (57<((gB S i:Nat):Int))=false):allD S (i+1):=by
 have h1:=of_decide_eq_false h1;have h2:=of_decide_eq_false h2
 intro j hj
 by_cases e:j=i
 ·subst e;exact ⟨by omega,by omega⟩
 ·exact h j om
theorem allD_end (h:allD S i) (hi:S.length<=i):allD S S.length:=fun j hj=>h j om
theorem decV_mono (S:LU) {j:Nat} (h:i<=j):rO S i<=rO S j:=by
 obtain ⟨k,rfl⟩:=Nat.exists_eq_add_of_le h
 clear h
 induction k with
 | zero=>exact IP _
 | succ k ih=>rw [<- Nat.add_assoc,rO];omega
def oK (S:LU):Int:=if 100<S.length then 4 else if S.length=0 then 7 else if allD S S.length then (if M<=rO S S.length then 5 else 0) else 7
def kQ (S:LU):Nat:=if oK S=0 then rO S S.length else 0
theorem parseV_lt (S : LU) : kQ S < M := by
 unfold kQ
 split
 ·rename_i h
  unfold oK at h
  split at h
  ·exact absurd h dC
  ·split at h
   ·exact absurd h dC
   ·split at h
    ·split at h
     ·exact absurd h dC
     ·omega
    ·exact absurd h dC
 ·exact zL
abbrev parO (S:LU):Ending:=.returned (.tuple #[U (kQ S),.int .i64 (oK S)])
theorem IA {c:Int} (hc:c≠0) (h:oK S=c):IL (.tuple #[U 0,.int .i64 c])=parO S:=by
 unfold parO kQ;rw [h,if_neg hc]
theorem par_limit (h:100<S.length):oK S=4:=by
 unfold oK;rw [if_pos h]
theorem par_empty (h2:decide (S=[])=true):oK S=7:=by
 have:=of_decide_eq_true h2
 subst this;rfl
theorem len_pos (h2:decide (S=[])=false): ¬ S.length=0:=by
 have:=of_decide_eq_false h2
 intro h;exact this (List.length_eq_zero_iff.1 h)
theorem par_text (h1: ¬ 100<S.length) (h2:decide (S=[])=false) (hi:i<S.length) (hd: ¬ isD S i):oK S=7:=by
 unfold oK;rw [if_neg h1,if_neg (len_pos h2),if_neg (fun h=>hd (h i hi))]
theorem no_low (h:decide (((gB S i:Nat):Int)<48)=true): ¬ isD S i:=by have h:=of_decide_eq_true h;unfold isD;omega
theorem no_high (h:decide (57<((gB S i:Nat):Int))=true): ¬ isD S i:=by have h:=of_decide_eq_true h;unfold isD;omega
theorem is_d (h1:decide (((gB S i:Nat):Int)<48)=false) (h2:decide (57<((gB S i:Nat):Int))=false):isD S i:=by
 have h1:=of_decide_eq_false h1;have h2:=of_decide_eq_false h2
 exact ⟨by omega,by omega⟩
theorem par_range (h1: ¬ 100<S.length) (h2:decide (S=[])=false) (hD:allD S S.length) (hi:i<=S.length) (hM:M<=rO S i):oK S=5:=by
 have:=decV_mono S hi
 unfold oK;rw [if_neg h1,if_neg (len_pos h2),if_pos hD,if_pos om]
theorem par_ok (h1: ¬ 100<S.length) (h2:decide (S=[])=false) (hD:allD S S.length) (ha:a=rO S i) (hi:i=S.length) (hM:a<M):IL (.tuple #[U a,.int .i64 0])=parO S:=by
 subst hi
 have e:oK S=0:=by unfold oK;rw [if_neg h1,if_neg (len_pos h2),if_pos hD,if_neg om]
 unfold parO kQ;rw [e,if_pos rfl,ha]
theorem dV_lt (h:isD S i):dV S i<10:=by unfold isD at h;unfold dV;omega
theorem dV_M (h:isD S i):dV S i<M:=Jk (dV_lt h) dK
theorem dV_W (h:isD S i):dV S i<18446744073709551616:=Jk (dV_lt h) dK
theorem dV_wrap (h:isD S i):IW.wrap (((gB S i:Nat):Int)-48)=((dV S i:Nat):Int):=by
 unfold isD at h;unfold dV
 rw [IntKind.wrap_u8];omega
theorem step_hi (ha:a=rO S i) (h: ¬ a*10 / M=0):M<=rO S (i+1):=by
 rw [rO,<- ha]
 have:M<=a*10:=Nat.le_of_not_lt (fun hl=>h (Nat.div_eq_of_lt hl))
 omega
theorem step_carry (ha:a=rO S i) (h:M<=a*10%M+dV S i):M<=rO S (i+1):=by
 rw [rO,<- ha]
 have:=Nat.mod_le (a*10) M
 omega
theorem step_ok (ha:a=rO S i) (h:a*10 / M=0) (h2: ¬ M<=a*10%M+dV S i):(a*10%M+dV S i)%M=rO S (i+1):=by
 have hl:a*10<M:=by
  rcases Nat.lt_or_ge (a*10) M with hl | hl
  ·exact hl
  ·exact absurd h (Nat.pos_iff_ne_zero.1 (Nat.div_pos hl zL))
 rw [I9 hl] at h2 ⊢
 rw [I9 om,rO,<- ha,Nat.mul_comm]
theorem over_next (ha:a=rO S i%M):(a*10%M+dV S i)%M=rO S (i+1)%M:=by
 rw [rO,ha,Nat.mod_add_mod,Nat.add_mod,Nat.mod_mul_mod,<- Nat.add_mod,Nat.mul_comm]
theorem over_t {o:Bool} (ho:o=decide (M<=rO S i)) (h:o=true):true=decide (M<=rO S (i+1)):=by
 have:=of_decide_eq_true (ho.symm.trans h)
 symm;apply decide_eq_true;rw [rO];omega
theorem over_c {o:Bool} (ha:a=rO S i%M) (ho:o=decide (M<=rO S i)) (h0:o=false) (h:decide (M<=a*10%M+dV S i)=true):true=decide (M<=rO S (i+1)):=by
 have h0:=of_decide_eq_false (ho.symm.trans h0)
 rw [I9 om] at ha
 symm;exact decide_eq_true (step_carry ha (of_decide_eq_true h))
theorem over_h {o:Bool} (ha:a=rO S i%M) (ho:o=decide (M<=rO S i)) (h0:o=false) (h:decide (M<=a*10%M+dV S i)=false):(!decide (a*10 / M=0))=decide (M<=rO S (i+1)):=by
 have h0:=of_decide_eq_false (ho.symm.trans h0)
 rw [I9 om] at ha
 by_cases hz:a*10 / M=0
 ·rw [decide_eq_true hz]
  symm;apply decide_eq_false
  have:=step_ok ha hz (of_decide_eq_false h)
  have h2:=of_decide_eq_false h
  have hm:=Du (a*10%M+dV S i)
  omega
 ·rw [decide_eq_false hz];symm;exact decide_eq_true (step_hi ha hz)
theorem over_lt {o:Bool} (ha:a=rO S i%M) (ho:o=decide (M<=rO S i)) (h0:o=false):a=rO S i:=by
 have h0:=of_decide_eq_false (ho.symm.trans h0)
 rw [ha,I9 om]
theorem par_over {o:Bool} (h1: ¬ 100<S.length) (h2:decide (S=[])=false) (hD:allD S S.length) (hi:i<=S.length) (ho:o=decide (M<=rO S i)) (h:o=true):oK S=5 :=
 par_range h1 h2 hD hi (of_decide_eq_true (ho.symm.trans h))
theorem decV_take {T:LU}:∀ {i:Nat},(∀ j,j<i->gB S j=gB T j)->rO S i=rO T i
 | 0,_=>rfl
 | i + 1, h => by
   rw [rO,rO,decV_take (fun j hj=>h j om)]
   unfold dV
   rw [h i om]
theorem gB_app {X Y:LU} {j:Nat} (h:j<X.length):gB (X++Y) j=gB X j:=by
 unfold gB
 rw [I7,I7,List.getElem?_append_left h]
theorem gB_end (X:LU) (c:UInt8):gB (X++[c]) X.length=c.toNat:=by
 unfold gB
 rw [I7,List.getElem?_append_right (IP _),Nat.sub_self];rfl
theorem dS_num (n : Nat) : allD (dS n) (dS n).length /\ rO (dS n) (dS n).length = n := by
 induction n using Nat.strongRecOn with
 | _ n ih =>
   have hc:(Jg (48+n%10)).toNat=48+n%10:=by rw [Jt];omega
   by_cases h9:n<10
   ·have hs : dS n = [Jg (48 + n)] := by unfold dS; rw [Jq, dif_pos h9]
    have e:gB [Jg (48+n)] 0=48+n:=by
     show (Jg (48+n)).toNat=_
     rw [Jt];omega
    rw [hs]
    refine ⟨fun j hj=>?_,?_⟩
    ·obtain rfl : j = 0 := by simpa using hj
     unfold isD;rw [e];omega
    ·show 10 * 0 + dV _ 0 = n
     unfold dV;rw [e];omega
   ·have hs : dS n = dS (n / 10) ++ [Jg (48 + n % 10)] := by
     unfold dS
     conv=>lhs;rw [Jq,dif_neg h9]
    obtain ⟨i1,i2⟩:=ih (n / 10) om
    have hl:(dS n).length=(dS (n / 10)).length+1:=by rw [hs,II];rfl
    rw [hl,hs]
    refine ⟨fun j hj=>?_,?_⟩
    ·unfold isD
     by_cases hj2:j<(dS (n / 10)).length
     ·rw [gB_app hj2];exact i1 j hj2
     ·obtain rfl : j = (dS (n / 10)).length := by omega
      rw [gB_end,hc];omega
    ·rw [rO, decV_take (T := dS (n / 10)) (fun j hj => gB_app hj), i2]
     unfold dV
     rw [gB_end,hc];omega
theorem parse_dS {n:Nat} (h:n<4294967296):oK (dS n)=0/\kQ (dS n)=n:=by
 obtain ⟨h1,h2⟩:=dS_num n
 have hl:=fA (n:=n) om
 have hp: ¬ (dS n).length=0:=fun e=>dS_ne n (List.eq_nil_of_length_eq_zero e)
 have hM: ¬ M<=n:=by rw [wZ];omega
 have e:oK (dS n)=0:=by unfold oK;rw [if_neg om,if_neg hp,if_pos h1,h2,if_neg hM]
 exact ⟨e,by unfold kQ;rw [if_pos e,h2]⟩
def yE (L:LU):LU:=L.take (Ar L)
def jV (L:LU):Bool:=decide (oK (yE L)=0)&&(decide (fJ (kQ (yE L))<=32)&&decide (dS (kQ (yE L))=yE L))
def o8 (L:LU):Nat:=if jV L=true then kQ (yE L) else 0
def iU (L:LU):LU:=L.drop (Ar L)
end Go.Proofs.YtegagmoldjiaaaaGreatDoor
