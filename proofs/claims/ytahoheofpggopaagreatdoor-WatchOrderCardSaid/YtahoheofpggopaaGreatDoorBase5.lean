/-
  What this statement needs, part 5: the texts of it, one behind the other.
-/
import Derived.Test.YtahoheofpggopaaGreatDoorBase4
import Derived.ProofKit
import Derived.OpenShut
import Derived.Test.YtahoheofpggopaaGreatDoorChecked
import Derived.SizedLaws
import Derived.ChangeSlices
import Derived.ChangeMaps5
import Derived.Test.YtahoheofpggopaaGreatDoorRows
import Derived.LaidMore
import Derived.LaidHandle
import Derived.MakeChecks
import Derived.Lib.LaidTab
import Derived.ChangeArms
import Derived.WideShapes
set_option maxRecDepth 100000
namespace Go.Proofs.YtahoheofpggopaaGreatDoor
open Go Go.RowKit _root_.Go.Proofs.Tryz
theorem bM.drop {w:World} {a:Option Addr} {c:Nat} {ts:List bW} (h:bM w a c ts) {k:Nat} (hk:k≤ts.length):bM w (if c=k then a else a.map (·.add (k*36))) (c-k) (ts.drop k):=by
 have hle:=h.le
 refine ⟨by rw [List.length_drop];omega,by rw [List.length_drop];have:=h.max;omega,?_,fun t ht=>h.sub t (List.mem_of_mem_drop ht),fun t ht=>h.ok t (List.mem_of_mem_drop ht)⟩
 by_cases hc:c=k
 ·have : ts.drop k = [] := List.eq_nil_of_length_eq_zero (by rw [List.length_drop]; omega)
  rw [this];exact Or.inl rfl
 ·rw [if_neg hc]
  have e:(ts.drop k).flatMap (fun t=>t.row.toList)=(ts.flatMap fun t=>t.row.toList).drop (k*36):=by
   have:=RowK.r_drop kT ts k
   rw [kT_r,kT_r] at this
   exact this
  rw [e]
  exact h.rows.drop _
theorem aK_oks {ts:List bW} (ho:mP ts):∀ p∈aK ts,p.Ok:=fun p hp=>by
 obtain ⟨t,ht,hp⟩:=List.mem_flatMap.1 hp
 exact (ho t ht).2 p hp
theorem kyN_ok {ts:List bW} (ho:mP ts) (z:Int):∀ n∈gV ts z,n<M:=by
 intro n hn
 unfold gV at hn
 by_cases h0:kZ ts z=0
 ·rw [if_pos h0] at hn
  obtain ⟨p,hp,rfl⟩:=List.mem_map.1 hn
  have hz:z.toNat<1000:=by
   unfold kZ at h0
   rw [if_pos (ky_valid (z:=z) (show kZ ts z=0 from h0))] at h0
   by_cases q:0≤z∧z<1000
   ·omega
   ·rw [if_neg q] at h0;exact absurd h0 (by decide)
  have ok:=aK_oks ho p hp
  refine (yR ok.k fun i hi=>?_).p
  unfold dO.ix at hi
  split at hi
  ·rcases List.mem_append.1 hi with q | q
   ·exact ok.ps i q
   ·rw [List.mem_singleton.1 q];omega
  ·exact ok.ps i hi
 ·rw [if_neg h0] at hn;simp at hn
theorem xN (g:Nat) (n:Nat) (pa:Nat→Option Addr) (pc:Nat→Nat) (pB:Nat→List UInt8) (hn:n≤16) (hl:(mZ pB n).length≤140737488351232) (w0:World) (hf0:Kb w0 g (xO n pa pc pB)) (hf1:rO w0 n pa pc pB):Calls prog 85 #[vs g n n] w0 (fun ε w'=>∃ α κ,ε=.returned (.slice α (mZ pB n).length κ)∧jG w0 w'∧Fs w0 w' α κ (mZ pB n)):=by
 refine Calls.of_ok (n:=17) (F:=(fun w=>Kb w g (xO n pa pc pB)∧rO w n pa pc pB∧True)) func85 rfl rfl rfl (by simp) (hf0.pers0.and (hf1.pers0.and cO)) (jJ f85 1 [0,2] [vz] (jJ f85 1 [0,2,3] [vz] (aB (jJ f85 3 [2,3,6,7,8] [vs g n n,vn n,vi 0] (aI ?_)))))
 refine oLF (σ:=Nat × (Option Addr) × Nat × (List UInt8)) (fun ⟨_,ja,jc,X⟩=>(fun w=>Kb w g (xO n pa pc pB)∧rO w n pa pc pB∧Fs w0 w ja jc X∧True)) (fun ⟨i,ja,jc,X⟩=>[(2,vz),(3,(.slice ja X.length jc)),(6,(vs g n n)),(7,(vn n)),(8,(vn i))]) (fun ⟨_,_,_,_⟩=>[]) (fun ⟨i,_,_,_⟩=>n-i)
  (fun ⟨i,_,_,X⟩=>(i≤n)∧(X=mZ pB i)) (0,none,0,[]) (⟨Nat.zero_le _,rfl⟩) (fun w hF=>⟨hF.1,hF.2.1,Fs.nil,trivial⟩) [] ?_
 rintro ⟨i,ja,jc,X⟩ ⟨hi,hX⟩
 refine jJ f85 1 [2,3,6,7,8,9] [.bool (decide (((i:Nat):Int)<((n:Nat):Int)))] (aB (oC (decide (((i:Nat):Int)<((n:Nat):Int))) (fun hb1=>?_) (fun hb1=>?_)))
 ·rw [hb1]
  have:=yT hb1
  refine aG (aA (aB (aI (sS f85 3 [2,3,5,6,7,8] [] (fun _=>let qa:Value:=.slice (pa i) (pB i).length (pc i);[jp g i,qa,qa]) (fun _=>[]) (cX (qS (fun _ w=>sO (g:=g) (c:=n) (k:=.i64) underlying29 sizeOf37 (show ((i:Nat):Int)=((i:Nat):Int) from rfl) (show i<n from om) w))<|cX (qF (v:=fun ρ=>(.slice (pa i) (pB i).length (pc i))) (fun _ _ _ hG=>mY (off:=i) isAgg37 hG.fn.1 (uX om)))<|jE [[]]) (fun _=>rSf f85 4 [2,3,6,7,8] [] (fun ρ=>let qa:Value:=.slice (oa ρ 2) (X++(pB i)).length (nb ρ 2);[.slice ja X.length jc,.slice (pa i) (pB i).length (pc i),qa,qa]) (fun _=>[]) (fun ρ=>[(2,fun w=>Fs w0 w (oa ρ 2) (nb ρ 2) (X++(pB i)))]) (fun ρ=>(fun w=>Kb w g (xO n pa pc pB)∧rO w n pa pc pB∧Fs w0 w ja jc X∧Fs w0 w (oa ρ 2) (nb ρ 2) (X++(pB i))∧True)) (fun _=>True) (fun _ _ hF hf=>⟨⟨hF.1,hF.2.1,hF.2.2.1,hf 2,trivial⟩,trivial⟩) (cR [[],[]]<|cX (qB (fun _ _ w hG=>tZ ja jc X (pa i) (pc i) (pB i) (by have h1:=sH pB (show i<n by omega);rw [← hX] at h1;exact Nat.le_trans h1 hl) w hG.fn.2.2.1.1 (hG.fn.2.1 i om)))<|jE [[]]) (fun ρ6 _=>aJ (aA (rS f85 2 [2,3,6,7,8] [] (fun _=>[vn (i+1),vn (i+1)]) (fun _=>[]) (jW (fun ρ=>(((i:Nat):Int)+1)) (fun _=>(i+1)) (fun _=>(aW i 1 om))<|jE [[]]) (fun _=>mD [(2,vz),(3,(.slice (oa ρ6 2) (X++(pB i)).length (nb ρ6 2))),(6,(vs g n n)),(7,(vn n)),(8,(vn (i+1)))] [] ?_)))))))))
  exact mNF (i+1,oa ρ6 2,nb ρ6 2,X++(pB i)) (by show n-(i+1)<n-i;omega) (⟨om,by rw [hX];rfl⟩) (fun w hS=>(hS.weaken (fun w hF=>⟨hF.1,hF.2.1,hF.2.2.2.1,trivial⟩)))
 rw [hb1]
 refine bF (aN (aN (aT (aA (jJ f85 2 [2] [.slice ja X.length jc,.slice ja X.length jc] (aF (mD [(2,(.slice ja X.length jc))] [] ?_)))))))
 exact mR (v:=(.slice ja X.length jc)) (fun _ hS=>⟨ja,jc,congrArg Ending.returned (by rw [← (show X=mZ pB n from hX.trans (by rw [show i=n by have:=yF hb1;omega]))]),hS.bel,dU (show X=mZ pB n from hX.trans (by rw [show i=n by have:=yF hb1;omega])) hS.facts.now.2.2.1⟩)
theorem jnrow2_any (g:Nat) (a0:Option Addr) (c0:Nat) (B0:List UInt8) (a1:Option Addr) (c1:Nat) (B1:List UInt8) (hl:B0.length+B1.length≤140737488351232) (_h0:0<B0.length) (w0:World) (hf0:Kb w0 g #[.slice a0 B0.length c0,.slice a1 B1.length c1]) (hf1:Bs w0 a0 c0 B0) (hf2:Bs w0 a1 c1 B1):Calls prog 85 #[.slice (some ⟨g,0,none⟩) 2 2] w0 (fun ε w'=>∃ α κ,ε=.returned (.slice α (B0++B1).length κ)∧jG w0 w'∧Fs w0 w' α κ (B0++B1)):=xN g 2 (fun k=>[a0,a1].getD k none) (fun k=>[c0,c1].getD k 0) (fun k=>[B0,B1].getD k []) (by decide) (by show (([]++B0)++B1).length≤_;simp only [List.length_append,List.length_nil];omega) w0 hf0 (allB2 hf1 hf2)
theorem rkey_any (p:Nat) (_hp:p<M) (w0:World):Calls prog 87 #[U p] w0 (fun ε w'=>∃ α κ,ε=.returned (.slice α (hL p).length κ)∧jG w0 w'∧Fs w0 w' α κ (hL p)):=by
 refine Calls.of_ok (n:=7) (F:=(fun _=>True)) func87 rfl rfl rfl (by simp) jT (sS f87 2 [1,2] [] (fun ρ=>[pt (nb ρ 0),vz]) (fun ρ=>[(0,(nw ρ 0 (cL (cU p) 64)))]) (jE [[],[]]) (fun _=>sS f87 4 [2,3] [0,1] (fun ρ=>[U p,.agg (hB p),pt (nb ρ 2),undef]) (fun ρ=>[(2,(nw ρ 2 (cL (hB 0) 57))),(3,(bD 17 (nb ρ 2) (cL (hB p) 57)))]) (cR [[0]]<|cC (fun _ w=>rbytes_any p w)<|jE [[],[17]]) (fun ρ2=>jJ f87 2 [2] (let qa:=vs (nb ρ2 2) (hL p).length 32;[qa,qa]) (aF (mD [(2,(vs (nb ρ2 2) (hL p).length 32))] [(nb ρ2 2,(cL (hB p) 57))] ?_)))))
 exact mR (v:=(vs (nb ρ2 2) (hL p).length 32)) (fun _ hS=>⟨some ⟨nb ρ2 2,0,none⟩,32,congrArg Ending.returned (rfl),hS.bel,dU (rfl) (hS.fresh (.head _) (tN _) (by rw [aO];decide) (by rw [aO];decide))⟩)
theorem tY (a:Option Addr) (c:Nat) (B:List UInt8) (hl:B.length≤255) (w0:World) (hf0:Bs w0 a c B):Calls prog 121 #[.agg #[vi 1,.slice a B.length c,vi 0,vi 0]] w0 (fun ε w'=>∃ α κ,ε=.returned (.slice α (bQ B).length κ)∧jG w0 w'∧Fs w0 w' α κ (bQ B)):=by
 refine Calls.of_ok (n:=29) (F:=(fun w=>Bs w a c B∧True)) func121 rfl rfl rfl (by simp) (hf0.pers0.and cO) (sS f121 2 [1,2] [] (fun ρ=>[pt (nb ρ 0),vz]) (fun ρ=>[(0,(nw ρ 0 (cL #[vi 1,.slice a B.length c,vi 0,vi 0] 120)))]) (jE [[],[]]) (fun ρ1=>aB (jM f121 2 [1,2,4] [] [pt (nb ρ1 0),vi 1] [[],[0]] (aI (jJ f121 2 [1,2,4,5] [vT,vT] (oY (iZ f121 10 [1,2] [1,0,0] (fun ρ=>let qa:=([ob 1,ob ((B.length:Nat):Int)]:List UInt8);let qb:Value:=.slice (oa ρ 8) (qa++B).length (nb ρ 8);[jp (nb ρ1 0) 1,.slice a B.length c,vn B.length,vy B.length,vs (nb ρ 4) qa.length 2,jp (nb ρ1 0) 1,.slice a B.length c,vs (nb ρ 7) 2 2,qb,qb]) (fun ρ=>[(4,(nw ρ 4 (cL #[.int .u8 1,vy B.length] 5))),(7,(nw ρ 7 (cL #[vs (nb ρ 4) ([ob 1,ob ((B.length:Nat):Int)]:List UInt8).length 2,.slice a B.length c] 37)))]) (fun ρ=>[(8,fun w=>Fs w0 w (oa ρ 8) (nb ρ 8) (([ob 1,ob ((B.length:Nat):Int)]:List UInt8)++B))]) (fun ρ=>(fun w=>Bs w a c B∧Fs w0 w (oa ρ 8) (nb ρ 8) (([ob 1,ob ((B.length:Nat):Int)]:List UInt8)++B)∧True)) (fun _=>True) (fun _ _ hF hf=>⟨⟨hF.1,hf 8,trivial⟩,trivial⟩) (cR [[],[0],[]]<|cA (v:=fun ρ=>(.int .u8 (IntKind.u8.wrap ((B.length:Nat):Int)))) (fun _=>(vy B.length)) (fun _=>congrArg (Value.int .u8) (u8N om))<|cR [[],[],[0],[]]<|cX (qB (fun ρ _ w hG=>jnrow2_any (nb ρ 7) (some ⟨nb ρ 4,0,none⟩) 2 ([ob 1,ob ((B.length:Nat):Int)]:List UInt8) a c B (by simp only [List.length_cons,List.length_nil];omega) (Nat.zero_lt_succ _) w (Kb.of_block (hG.kn (g:=nb ρ 7) (o:=(cL #[vs (nb ρ 4) ([ob 1,ob ((B.length:Nat):Int)]:List UInt8).length 2,.slice a B.length c] 37)) 57)) (Bs.of_hd (hG.kn (g:=nb ρ 4) (o:=(cL #[.int .u8 1,vy B.length] 5)) 33) (hd2 (by decide) om) (Nat.le_refl 2) (Nat.le_of_ble_eq_true rfl)) hG.fn.1))<|jE [[]]) (fun ρ4 _=>aF (aP (aC (mD [(1,(pt (nb ρ1 0))),(2,(.slice (oa ρ4 8) (([ob 1,ob ((B.length:Nat):Int)]:List UInt8)++B).length (nb ρ4 8)))] [(nb ρ1 0,(cL #[vi 1,.slice a B.length c,vi 0,vi 0] 120))] ?_)))))))))))
 exact mR (v:=(.slice (oa ρ4 8) (([ob 1,ob ((B.length:Nat):Int)]:List UInt8)++B).length (nb ρ4 8))) (fun _ hS=>⟨oa ρ4 8,nb ρ4 8,congrArg Ending.returned (rfl),hS.bel,dU (rfl) hS.facts.now.2.1⟩)
theorem wR (a:Option Addr) (c:Nat) (B:List UInt8) (hl:B.length≤255) (w0:World) (hf0:Bs w0 a c B):Calls prog 86 #[.slice a B.length c] w0 (fun ε w'=>∃ α κ,ε=.returned (.slice α (bQ B).length κ)∧jG w0 w'∧Fs w0 w' α κ (bQ B)):=by
 refine Calls.of_ok (n:=6) (F:=(fun w=>Bs w a c B∧True)) func86 rfl rfl rfl (by simp) (hf0.pers0.and cO) (jJ f86 1 [0,2] [vz] (iZ f86 4 [2] [] (fun ρ=>let qa:Value:=.slice (oa ρ 2) (bQ B).length (nb ρ 2);[.slice a B.length c,.agg #[vi 1,.slice a B.length c,vi 0,vi 0],qa,qa]) (fun _=>[]) (fun ρ=>[(2,fun w=>Fs w0 w (oa ρ 2) (nb ρ 2) (bQ B))]) (fun ρ=>(fun w=>Bs w a c B∧Fs w0 w (oa ρ 2) (nb ρ 2) (bQ B)∧True)) (fun _=>True) (fun _ _ hF hf=>⟨⟨hF.1,hf 2,trivial⟩,trivial⟩) (cR [[],[]]<|cX (qB (fun _ _ w hG=>tY a c B hl w hG.fn.1))<|jE [[]]) (fun ρ2 _=>aF (mD [(2,(.slice (oa ρ2 2) (bQ B).length (nb ρ2 2)))] [] ?_))))
 exact mR (v:=(.slice (oa ρ2 2) (bQ B).length (nb ρ2 2))) (fun _ hS=>⟨oa ρ2 2,nb ρ2 2,congrArg Ending.returned (rfl),hS.bel,dU (rfl) hS.facts.now.2.1⟩)
theorem rsingle_any (p:Nat) (hp:p<M) (w0:World):Calls prog 63 #[U p] w0 (fun ε w'=>∃ α κ,ε=.returned (.slice α (sgB p).length κ)∧jG w0 w'∧Fs w0 w' α κ (sgB p)):=by
 refine Calls.of_ok (n:=9) (F:=(fun _=>True)) func63 rfl rfl rfl (by simp) jT (sS f63 2 [1,2] [] (fun ρ=>[pt (nb ρ 0),vz]) (fun ρ=>[(0,(nw ρ 0 (cL (cU p) 64)))]) (jE [[],[]]) (fun _=>iZ f63 7 [2] [0,0,0] (fun ρ=>let qa:Value:=.slice (oa ρ 5) ((bQ (hL p))++([10]:List UInt8)).length (nb ρ 5);[U p,.slice (oa ρ 1) (hL p).length (nb ρ 1),.slice (oa ρ 2) (bQ (hL p)).length (nb ρ 2),vs (nb ρ 3) ([10]:List UInt8).length 1,vs (nb ρ 4) 2 2,qa,qa]) (fun ρ=>[(3,(nw ρ 3 (cL #[.int .u8 10] 5))),(4,(nw ρ 4 (cL #[.slice (oa ρ 2) (bQ (hL p)).length (nb ρ 2),vs (nb ρ 3) ([10]:List UInt8).length 1] 37)))]) (fun ρ=>[(1,fun w=>Fs w0 w (oa ρ 1) (nb ρ 1) (hL p)),(2,fun w=>Fs w0 w (oa ρ 2) (nb ρ 2) (bQ (hL p))),(5,fun w=>Fs w0 w (oa ρ 5) (nb ρ 5) ((bQ (hL p))++([10]:List UInt8)))]) (fun ρ=>(fun w=>Fs w0 w (oa ρ 1) (nb ρ 1) (hL p)∧Fs w0 w (oa ρ 2) (nb ρ 2) (bQ (hL p))∧Fs w0 w (oa ρ 5) (nb ρ 5) ((bQ (hL p))++([10]:List UInt8))∧True)) (fun _=>True) (fun _ _ _ hf=>⟨⟨hf 1,hf 2,hf 5,trivial⟩,trivial⟩) (cR [[0]]<|cX (qB (fun _ _ w _=>rkey_any p hp w))<|cX (qB (fun ρ _ w hG=>wR (oa ρ 1) (nb ρ 1) (hL p) (by rw [aO];decide) w (show Fs w0 w (oa ρ 1) (nb ρ 1) (hL p) from (hG.facts 1 rfl).now).1))<|cR [[],[]]<|cX (qB (fun ρ _ w hG=>jnrow2_any (nb ρ 4) (oa ρ 2) (nb ρ 2) (bQ (hL p)) (some ⟨nb ρ 3,0,none⟩) 1 ([10]:List UInt8) (by simp only [List.length_cons,List.length_nil,eG,aO];omega) (qY _) w (Kb.of_block (hG.kn (g:=nb ρ 4) (o:=(cL #[.slice (oa ρ 2) (bQ (hL p)).length (nb ρ 2),vs (nb ρ 3) ([10]:List UInt8).length 1] 37)) 33)) (show Fs w0 w (oa ρ 2) (nb ρ 2) (bQ (hL p)) from (hG.facts 2 rfl).now).1 (Bs.of_hd (hG.kn (g:=nb ρ 3) (o:=(cL #[.int .u8 10] 5)) 25) (rfl:Hd #[.int .u8 10] ([10]:List UInt8)) (Nat.le_refl 1) (Nat.le_of_ble_eq_true rfl))))<|jE [[]]) (fun ρ2 _=>aF (mD [(2,(.slice (oa ρ2 5) ((bQ (hL p))++([10]:List UInt8)).length (nb ρ2 5)))] [] ?_))))
 exact mR (v:=(.slice (oa ρ2 5) ((bQ (hL p))++([10]:List UInt8)).length (nb ρ2 5))) (fun _ hS=>⟨oa ρ2 5,nb ρ2 5,congrArg Ending.returned (rfl),hS.bel,dU (rfl) hS.facts.now.2.2.1⟩)
def BlC (ts:List bW) (ns:List Nat) (x:List UInt8) (n m:Nat):Prop:=∀ (a b:Option Addr) (c d:Nat) (w0:World),bM w0 a c ts→Us w0 b d ns→Calls prog 40 #[.slice a ts.length c,.slice b ns.length d] w0 (fun ε w'=>∃ α κ,ε=.returned (.tuple #[.slice α x.length κ,.int .i64 ((n:Nat):Int),.int .i64 ((m:Nat):Int)])∧jG w0 w'∧Fs w0 w' α κ x)
theorem build1_any (a:Option Addr) (c:Nat) (ts:List bW) (b:Option Addr) (d:Nat) (ns:List Nat) (hk:(gT ts 0).kd=1) (h0:0<ts.length) (hfd:(gT ts 0).fd=true) (hks:(gT ts 0).ks.length≤ns.length) (_ho:mP ts) (hU:∀ n∈ns,n<M) (w0:World) (hf0:bM w0 a c ts) (hf1:Us w0 b d ns):Calls prog 40 #[.slice a ts.length c,.slice b ns.length d] w0 (fun ε w'=>∃ α κ,ε=.returned (.tuple #[.slice α (sgB (ns.getD 0 0)).length κ,vi 1,vi 1])∧jG w0 w'∧Fs w0 w' α κ (sgB (ns.getD 0 0))):=by
 refine Calls.of_ok (n:=103) (F:=(fun w=>bM w a c ts∧Us w b d ns∧True)) func40 rfl rfl rfl (by simp) (hf0.pers0.and (hf1.pers0.and cO)) (jJ f40 3 [0,1,4,5,6] [vz,vi 0,vi 0] (sS f40 5 [0,1,4,5,6,7] [] (fun ρ=>[.slice a ts.length c,.pointer (fK a (0*36)),.agg (bW.row (gT ts 0)),pt (nb ρ 3),undef]) (fun ρ=>[(3,(nw ρ 3 (cL (iC 0 0 0 0 vz) 60))),(4,(bD 24 (nb ρ 3) (cL (bW.row (gT ts 0)) 60)))]) (cR [[]]<|cX (qF (fun _ _ _ hG=>bM.idx (k:=.i64) underlying24 sizeOf60 hG.fn.1 rfl (show (0:Int)=((0:Nat):Int) from rfl) (show 0<ts.length from h0)))<|cX (qF (fun _ _ _ hG=>bM.ldA (i:=0) isAgg60 sizeOf60 hG.fn.1 (show 0<ts.length from h0)))<|jE [[],[24]]) (fun ρ2=>aB (jM f40 2 [0,1,4,5,6,7,20] [] [pt (nb ρ2 3),vi (gT ts 0).kd] [[],[0]] (aI (sS f40 2 [0,1,4,5,6,7,20,21] [] (fun _=>[vT,vT]) (fun _=>[]) (jQ (fun ρ=>((gT ts 0).kd==1)) true (fun _=>(jK hk rfl))<|jE [[]]) (fun _=>oY (iZ f40 7 [0,1,4,5,6,7] [] (fun ρ=>let qa:Value:=.slice (oa ρ 3) (sgB (gU ns 0)).length (nb ρ 3);[.slice b ns.length d,.pointer (fK b (0*4)),U (gU ns 0),qa,qa,vi 1,vi 1]) (fun _=>[]) (fun ρ=>[(3,fun w=>Fs w0 w (oa ρ 3) (nb ρ 3) (sgB (gU ns 0)))]) (fun ρ=>(fun w=>bM w a c ts∧Us w b d ns∧Fs w0 w (oa ρ 3) (nb ρ 3) (sgB (gU ns 0))∧True)) (fun _=>True) (fun _ _ hF hf=>⟨⟨hF.1,hF.2.1,hf 3,trivial⟩,trivial⟩) (cR [[]]<|cX (qF (fun _ _ _ hG=>Us.idx (k:=.i64) underlying80 sizeOf64 hG.fn.2.1 rfl (show (0:Int)=((0:Nat):Int) from rfl) (show 0<ns.length from (by have:=hks;have h1:0<(gT ts 0).ks.length:=(by have:=(xAT _ _ _ _ _).1 hfd;unfold o7 at this;omega);omega))))<|cX (qF (fun _ _ _ hG=>Us.ldA isAgg64 sizeOf64 hG.fn.2.1 (show 0<ns.length from (by have:=hks;have h1:0<(gT ts 0).ks.length:=(by have:=(xAT _ _ _ _ _).1 hfd;unfold o7 at this;omega);omega))))<|cX (qB (fun _ _ w _=>rsingle_any (gU ns 0) (gU_ok hU 0) w))<|jE [[],[],[]]) (fun ρ5 _=>aF (aP (aC (mD [(0,(.slice a ts.length c)),(1,(.slice b ns.length d)),(4,(.slice (oa ρ5 3) (sgB (gU ns 0)).length (nb ρ5 3))),(5,(vi 1)),(6,(vi 1)),(7,(pt (nb ρ2 3)))] [(nb ρ2 3,(cL (bW.row (gT ts 0)) 60))] ?_))))))))))))
 exact mR (v:=(.tuple #[.slice (oa ρ5 3) (sgB (gU ns 0)).length (nb ρ5 3),vi 1,vi 1])) (fun _ hS=>⟨oa ρ5 3,nb ρ5 3,congrArg Ending.returned (rfl),hS.bel,dU (rfl) hS.facts.now.2.2.1⟩)
theorem build_ex {ts:List bW} {z:Int} (h0:kZ ts z=0) (h2:∀ t∈ts,t.kd=1) (ho:mP ts) (hU:∀ n∈gV ts z,n<M):∃ n m,BlC ts (gV ts z) (xP ts z) n m:=by
 obtain ⟨s',h⟩:=nx_go h0 none 0 none 0
 unfold nx at h
 split at h
 ·exact absurd h (by simp)
 rename_i hc
 have hc:(Mk.mk none 0 ts none 0 (gV ts z)).can=true:=by simpa using hc
 have hk:(Mk.mk none 0 ts none 0 (gV ts z)).fst.kd=1:=h2 _ (xAE (eX hc))
 rw [if_pos hk] at h
 simp only [Option.some.injEq,Prod.mk.injEq] at h;rw [← h.1]
 exact ⟨1,1,fun a b c d w0 hT hV=>build1_any a c ts b d (gV ts z) hk (eX hc) ((xAT _ _ _ _ _).2 (vV hc)) (fE hc) ho hU w0 hT hV⟩
theorem rhmac_any (a:Option Addr) (c:Nat) (K:Nat) (a2:Option Addr) (c2:Nat) (S:List UInt8) (hl:S.length+200≤140737488351232) (w0:World) (hf0:Bs w0 a c (hL K)) (hf1:Bs w0 a2 c2 S):Calls prog 116 #[.slice a (hL K).length c,.slice a2 S.length c2] w0 (jR (.agg (hB (hmN K S))) w0):=by
 refine Calls.of_ok (n:=51) (F:=(fun w=>Bs w a c (hL K)∧Bs w a2 c2 S∧True)) func116 rfl rfl rfl (by simp) (hf0.pers0.and (hf1.pers0.and cO)) (sS f116 1 [0,1,4] [] (fun ρ=>[pt (nb ρ 0)]) (fun ρ=>[(0,(nw ρ 0 (cL (hB 0) 57)))]) (jE [[]]) (fun ρ1=>aB (sS f116 3 [0,1,4,13] [] (fun _=>[.slice a (hL K).length c,vn (hL K).length,vF]) (fun _=>[]) (cR [[],[]]<|jQ (fun ρ=>(decide (64<(((hL K).length:Nat):Int)))) false (fun _=>(decide_eq_false (by rw [aO];decide)))<|cN) (fun _=>oN (aG (aA (sD f116 [0,0,1,7] 4 [0,1,4,6,7] [] (fun ρ=>let qa:=vs (nb ρ 0) (List.replicate 64 (0:UInt8)).length 64;let qb:=vs (nb ρ 1) (List.replicate 64 (0:UInt8)).length 64;[qa,qb,qa,qb]) (fun ρ=>[(0,(nw ρ 0 (cL (zB 64) 5))),(1,(nw ρ 1 (cL (zB 64) 5)))]) (cX (uB _ (fun _=>do pure (Next.value (← Instr.makeSlice 37 (vi 64) (vi 64)))) (fun _ ζ=>(vs (ζ.headD 0) (List.replicate 64 (0:UInt8)).length 64)) (fun _ _=>(cL (zB 64) 5)) (fun _ _=>(by kernel_rfl)) (fun _=>(by kernel_rfl)) (fun _ _=>trivial) (fun _ _ w _=>mM underlying37 nH (List.replicate 64 (0:UInt8)) (by rw [List.length_replicate];rfl) (rfl) (by rw [List.length_replicate];exact Nat.le_refl _) (by decide) w))<|cX (uB _ (fun _=>do pure (Next.value (← Instr.makeSlice 37 (vi 64) (vi 64)))) (fun _ ζ=>(vs (ζ.headD 0) (List.replicate 64 (0:UInt8)).length 64)) (fun _ _=>(cL (zB 64) 5)) (fun _ _=>(by kernel_rfl)) (fun _=>(by kernel_rfl)) (fun _ _=>trivial) (fun _ _ w _=>mM underlying37 nH (List.replicate 64 (0:UInt8)) (by rw [List.length_replicate];rfl) (rfl) (by rw [List.length_replicate];exact Nat.le_refl _) (by decide) w))<|jE [[],[]]) (fun ρ3=>aB (jJ f116 3 [0,1,4,6,7,20,21] [vs (nb ρ3 0) (List.replicate 64 (0:UInt8)).length 64,vn (List.replicate 64 (0:UInt8)).length,vi 0] (aI ?_))))))))))
 refine oL (σ:=Nat × (Array Value) × (Array Value)) (fun ⟨m,_,_⟩=>[(0,(.slice a (hL K).length c)),(1,(.slice a2 S.length c2)),(4,(pt (nb ρ1 0))),(6,(vs (nb ρ3 0) (List.replicate 64 (0:UInt8)).length 64)),(7,(vs (nb ρ3 1) (List.replicate 64 (0:UInt8)).length 64)),(20,(vn (List.replicate 64 (0:UInt8)).length)),(21,(vn m))]) (fun ⟨_,C1,C2⟩=>[(nb ρ1 0,(cL (hB 0) 57)),(nb ρ3 0,(cL C1 5)),(nb ρ3 1,(cL C2 5))]) (fun ⟨m,_,_⟩=>64-m)
  (fun ⟨m,C1,C2⟩=>(m≤64)∧(C1=(bs (fl2 (xB 54 K) 64 m)).toArray)∧(C2=(bs (fl2 (xB 92 K) 64 m)).toArray)) (0,zB 64,zB 64) (⟨by decide,by rw [fl2_zero];rfl,by rw [fl2_zero];rfl⟩) [] ?_
 rintro ⟨m,C1,C2⟩ ⟨hm,hC1,hC2⟩
 refine jJ f116 1 [0,1,4,6,7,20,21,22] [.bool (decide (((m:Nat):Int)<(((List.replicate 64 (0:UInt8)).length:Nat):Int)))] (aB (oC (decide (((m:Nat):Int)<(((List.replicate 64 (0:UInt8)).length:Nat):Int))) (fun hb1=>?_) (fun hb1=>?_)))
 ·rw [hb1]
  have:=yT hb1
  refine aG (aA (aB (aI (jJ f116 2 [0,1,4,6,7,8,20,21] [vn m,vn m] (jJ f116 1 [0,1,4,6,7,8,9,20,21] [.int .u8 0] (aB (jJ f116 4 [0,1,4,6,7,8,9,20,21,27] [vn m,.slice a (hL K).length c,vn (hL K).length,.bool (decide (((m:Nat):Int)<(((hL K).length:Nat):Int)))] (oC (decide (((m:Nat):Int)<(((hL K).length:Nat):Int))) (fun hb2=>?_) (fun hb2=>?_)))))))))
  ·rw [hb2]
   have:=yT hb2
   refine rS f116 5 [0,1,4,6,7,8,9,20,21] [] (fun _=>[.slice a (hL K).length c,vn m,.pointer (fK a m),vy (gB (hL K) m),vy (gB (hL K) m)]) (fun _=>[]) (cR [[],[]]<|cX (qF (fun _ _ _ hG=>idx_bytes (k:=.i64) underlying37 nH hG.fn.1 rfl (show ((m:Nat):Int)=((m:Nat):Int) from rfl) (show m<(hL K).length from (by rw [aO];exact (by have h9:=yT hb2;rw [aO] at h9;omega)))))<|cX (qF (fun _ _ _ hG=>ld_bytes isAgg5 hG.fn.1 (show m<(hL K).length from (by rw [aO];exact (by have h9:=yT hb2;rw [aO] at h9;omega)))))<|jE [[]]) (fun _=>aA (rS f116 12 [0,1,4,6,7,20,21] [] (fun _=>[vs (nb ρ3 0) (List.replicate 64 (0:UInt8)).length 64,vn m,vs (nb ρ3 1) (List.replicate 64 (0:UInt8)).length 64,vn m,vy (gB (hL K) m),vy (gB (xB 54 K) m),vy (gB (hL K) m),vy (gB (xB 92 K) m),jp (nb ρ3 0) m,undef,jp (nb ρ3 1) m,undef]) (fun _=>[(9,(bD 1 (nb ρ3 0) (cL (bs (fl2 (xB 54 K) 64 (m+1))).toArray 5))),(11,(bD 2 (nb ρ3 1) (cL (bs (fl2 (xB 92 K) 64 (m+1))).toArray 5)))]) (cR [[],[],[],[],[]]<|cA (v:=fun ρ=>(.int .u8 (bits .xor .u8 ((gB (hL K) m:Nat):Int) 54))) (fun _=>(vy (gB (xB 54 K) m))) (fun _=>congrArg (Value.int .u8) (hm_xorL54 (K:=K) (i:=m) (by have h9:=yT hb2;rw [aO] at h9;omega)))<|cR [[]]<|cA (v:=fun ρ=>(.int .u8 (bits .xor .u8 ((gB (hL K) m:Nat):Int) 92))) (fun _=>(vy (gB (xB 92 K) m))) (fun _=>congrArg (Value.int .u8) (hm_xorL92 (K:=K) (i:=m) (by have h9:=yT hb2;rw [aO] at h9;omega)))<|cX (qS (fun _ w=>uI (g:=nb ρ3 0) (c:=64) (k:=.i64) underlying37 nH (show ((m:Nat):Int)=((m:Nat):Int) from rfl) (show m<(List.replicate 64 (0:UInt8)).length from (by rw [List.length_replicate];have:=List.length_replicate (n:=64) (a:=(0:UInt8));omega)) w))<|cX (qG _ 1 5 (fun _=>nb ρ3 0) (fun _=>m) (fun _=>C1) (fun _=>(bs (fl2 (xB 54 K) 64 (m+1))).toArray) 5 (fun _=>(vy (gB (xB 54 K) m))) (fun _=>by kernel_rfl) sizeOf5 (fun _=>rfl) (fun _=>(by rw [hC1,List.size_toArray,dH,xM (eP _ _) hm];have:=List.length_replicate (n:=64) (a:=(0:UInt8));omega)) (fun _=>(by rw [hC1];exact fl2_set (eP _ _) (by have:=List.length_replicate (n:=64) (a:=(0:UInt8));omega) rfl)))<|cX (qS (fun _ w=>uI (g:=nb ρ3 1) (c:=64) (k:=.i64) underlying37 nH (show ((m:Nat):Int)=((m:Nat):Int) from rfl) (show m<(List.replicate 64 (0:UInt8)).length from (by rw [List.length_replicate];have:=List.length_replicate (n:=64) (a:=(0:UInt8));omega)) w))<|cX (qG _ 2 5 (fun _=>nb ρ3 1) (fun _=>m) (fun _=>C2) (fun _=>(bs (fl2 (xB 92 K) 64 (m+1))).toArray) 5 (fun _=>(vy (gB (xB 92 K) m))) (fun _=>by kernel_rfl) sizeOf5 (fun _=>rfl) (fun _=>(by rw [hC2,List.size_toArray,dH,xM (eP _ _) hm];have:=List.length_replicate (n:=64) (a:=(0:UInt8));omega)) (fun _=>(by rw [hC2];exact fl2_set (eP _ _) (by have:=List.length_replicate (n:=64) (a:=(0:UInt8));omega) rfl)))<|cN) (fun _=>aJ (aA (rS f116 2 [0,1,4,6,7,20,21] [] (fun _=>[vn (m+1),vn (m+1)]) (fun _=>[]) (jW (fun ρ=>(((m:Nat):Int)+1)) (fun _=>(m+1)) (fun _=>(aW m 1 (by have:=List.length_replicate (n:=64) (a:=(0:UInt8));omega)))<|jE [[]]) (fun _=>?_))))))
   exact mN (m+1,(bs (fl2 (xB 54 K) 64 (m+1))).toArray,(bs (fl2 (xB 92 K) 64 (m+1))).toArray) (by show 64-(m+1)<64-m;have:=List.length_replicate (n:=64) (a:=(0:UInt8));omega) (⟨(by have:=List.length_replicate (n:=64) (a:=(0:UInt8));omega),rfl,rfl⟩) []
  rw [hb2]
  have:=yF hb2
  refine aG (aA (rS f116 12 [0,1,4,6,7,20,21] [] (fun _=>[vs (nb ρ3 0) (List.replicate 64 (0:UInt8)).length 64,vn m,vs (nb ρ3 1) (List.replicate 64 (0:UInt8)).length 64,vn m,.int .u8 0,.int .u8 54,.int .u8 0,.int .u8 92,jp (nb ρ3 0) m,undef,jp (nb ρ3 1) m,undef]) (fun _=>[(9,(bD 1 (nb ρ3 0) (cL (bs (fl2 (xB 54 K) 64 (m+1))).toArray 5))),(11,(bD 2 (nb ρ3 1) (cL (bs (fl2 (xB 92 K) 64 (m+1))).toArray 5)))]) (cR [[],[],[],[],[],[],[],[]]<|cX (qS (fun _ w=>uI (g:=nb ρ3 0) (c:=64) (k:=.i64) underlying37 nH (show ((m:Nat):Int)=((m:Nat):Int) from rfl) (show m<(List.replicate 64 (0:UInt8)).length from (by rw [List.length_replicate];have:=List.length_replicate (n:=64) (a:=(0:UInt8));omega)) w))<|cX (qG _ 1 5 (fun _=>nb ρ3 0) (fun _=>m) (fun _=>C1) (fun _=>(bs (fl2 (xB 54 K) 64 (m+1))).toArray) 5 (fun _=>(.int .u8 54)) (fun _=>by kernel_rfl) sizeOf5 (fun _=>rfl) (fun _=>(by rw [hC1,List.size_toArray,dH,xM (eP _ _) hm];have:=List.length_replicate (n:=64) (a:=(0:UInt8));omega)) (fun _=>(by rw [hC1];exact fl2_set (eP _ _) (by have:=List.length_replicate (n:=64) (a:=(0:UInt8));omega) (kx_out54 (by have h9:=yF hb2;rw [aO] at h9;omega) (by have:=List.length_replicate (n:=64) (a:=(0:UInt8));omega)))))<|cX (qS (fun _ w=>uI (g:=nb ρ3 1) (c:=64) (k:=.i64) underlying37 nH (show ((m:Nat):Int)=((m:Nat):Int) from rfl) (show m<(List.replicate 64 (0:UInt8)).length from (by rw [List.length_replicate];have:=List.length_replicate (n:=64) (a:=(0:UInt8));omega)) w))<|cX (qG _ 2 5 (fun _=>nb ρ3 1) (fun _=>m) (fun _=>C2) (fun _=>(bs (fl2 (xB 92 K) 64 (m+1))).toArray) 5 (fun _=>(.int .u8 92)) (fun _=>by kernel_rfl) sizeOf5 (fun _=>rfl) (fun _=>(by rw [hC2,List.size_toArray,dH,xM (eP _ _) hm];have:=List.length_replicate (n:=64) (a:=(0:UInt8));omega)) (fun _=>(by rw [hC2];exact fl2_set (eP _ _) (by have:=List.length_replicate (n:=64) (a:=(0:UInt8));omega) (kx_out92 (by have h9:=yF hb2;rw [aO] at h9;omega) (by have:=List.length_replicate (n:=64) (a:=(0:UInt8));omega)))))<|cN) (fun _=>aJ (aA (rS f116 2 [0,1,4,6,7,20,21] [] (fun _=>[vn (m+1),vn (m+1)]) (fun _=>[]) (jW (fun ρ=>(((m:Nat):Int)+1)) (fun _=>(m+1)) (fun _=>(aW m 1 (by have:=List.length_replicate (n:=64) (a:=(0:UInt8));omega)))<|jE [[]]) (fun _=>?_))))))
  exact mN (m+1,(bs (fl2 (xB 54 K) 64 (m+1))).toArray,(bs (fl2 (xB 92 K) 64 (m+1))).toArray) (by show 64-(m+1)<64-m;have:=List.length_replicate (n:=64) (a:=(0:UInt8));omega) (⟨(by have:=List.length_replicate (n:=64) (a:=(0:UInt8));omega),rfl,rfl⟩) []
 rw [hb1]
 refine bF (aN (aN (aT ?_)))
 rw [(show C1=(bs (xB 54 K)).toArray from hC1.trans (by rw [fl2_end (eP _ _) (by have:=yF hb1;have:=List.length_replicate (n:=64) (a:=(0:UInt8));omega)]))]
 rw [(show C2=(bs (xB 92 K)).toArray from hC2.trans (by rw [fl2_end (eP _ _) (by have:=yF hb1;have:=List.length_replicate (n:=64) (a:=(0:UInt8));omega)]))]
 refine aA (iZ f116 6 [4,7,10] [1,0,1,1] (fun ρ=>[vs (nb ρ3 0) (List.replicate 64 (0:UInt8)).length 64,.slice a2 S.length c2,vs (nb ρ 2) ((xB 54 K)++S).length (aZ ρ 2),.agg (hB (aU ((xB 54 K)++S))),pt (nb ρ 4),undef]) (fun ρ=>[(2,(bD 1 (nb ρ 2) (cL (oc ρ 2) 5))),(4,(nw ρ 4 (cL (hB 0) 57))),(5,(bD 35 (nb ρ 4) (cL (hB (aU ((xB 54 K)++S))) 57)))]) (fun ρ=>[(2,fun w=>Ap (oc ρ 2) ((xB 54 K)++S) (aZ ρ 2))]) (fun _=>(fun w=>Bs w a c (hL K)∧Bs w a2 c2 S∧True)) (fun ρ=>Ap (oc ρ 2) ((xB 54 K)++S) (aZ ρ 2)) (fun _ _ hF hf=>⟨hF,hf 2⟩) (cR [[],[]]<|cX (qM 1 (fun _ _ _ hG hg=>app_any (ty:=37) (g:=nb ρ3 0) (C:=(bs (xB 54 K)).toArray) (c:=64) (xs:=xB 54 K) underlying37 nH (Ap.mk' (Hd.all _) (Nat.le_of_eq (eP _ _)) (by rw [eP];decide) (by rw [List.size_toArray,dH,eP])) (Bs.src (tx:=37) underlying37 hG.fn.2.1) (by rw [eP];omega) hg))<|cX (qC (fun ρ _ w hG=>uY (some ⟨nb ρ 2,0,none⟩) (aZ ρ 2) ((xB 54 K)++S) (by simp only [List.length_append,eP];omega) (by simp only [List.length_append,eP];omega) w (Bs.of_hd (hG.kn (g:=nb ρ 2) (o:=(cL (oc ρ 2) 5)) 1) (show Ap (oc ρ 2) ((xB 54 K)++S) (aZ ρ 2) from (hG.facts 2 rfl).now).hd (show Ap (oc ρ 2) ((xB 54 K)++S) (aZ ρ 2) from (hG.facts 2 rfl).now).le (show Ap (oc ρ 2) ((xB 54 K)++S) (aZ ρ 2) from (hG.facts 2 rfl).now).max)))<|jE [[],[35]]) (fun ρ14 ap14_2=>iZ f116 5 [4] [1,0,0] (fun ρ=>[vs (nb ρ3 1) (List.replicate 64 (0:UInt8)).length 64,vs (nb ρ14 4) (hL (aU ((xB 54 K)++S))).length 32,vs (nb ρ 2) ((xB 92 K)++(hL (aU ((xB 54 K)++S)))).length (aZ ρ 2),.agg (hB (aU ((xB 92 K)++(hL (aU ((xB 54 K)++S)))))),undef]) (fun ρ=>[(2,(bD 1 (nb ρ 2) (cL (oc ρ 2) 5))),(4,(bD 0 (nb ρ1 0) (cL (hB (aU ((xB 92 K)++(hL (aU ((xB 54 K)++S)))))) 57)))]) (fun ρ=>[(2,fun w=>Ap (oc ρ 2) ((xB 92 K)++(hL (aU ((xB 54 K)++S)))) (aZ ρ 2))]) (fun _=>(fun w=>Bs w a c (hL K)∧Bs w a2 c2 S∧True)) (fun ρ=>Ap (oc ρ 2) ((xB 92 K)++(hL (aU ((xB 54 K)++S)))) (aZ ρ 2)) (fun _ _ hF hf=>⟨hF,hf 2⟩) (cR [[],[]]<|cX (qM 1 (fun _ _ _ hG hg=>app_any (ty:=37) (g:=nb ρ3 1) (C:=(bs (xB 92 K)).toArray) (c:=64) (xs:=xB 92 K) underlying37 nH (Ap.mk' (Hd.all _) (Nat.le_of_eq (eP _ _)) (by rw [eP];decide) (by rw [List.size_toArray,dH,eP])) (Bs.src (tx:=37) underlying37 (Bs.of_hd (c:=32) (hG.kn (g:=nb ρ14 4) (o:=(cL (hB (aU ((xB 54 K)++S))) 57)) 2) (tN _) (Nat.le_refl _) (Nat.le_of_ble_eq_true rfl))) (by simp only [eP,aO];omega) hg))<|cX (qC (fun ρ _ w hG=>uY (some ⟨nb ρ 2,0,none⟩) (aZ ρ 2) ((xB 92 K)++(hL (aU ((xB 54 K)++S)))) (by simp only [List.length_append,eP];omega) (by simp only [List.length_append,eP,aO];omega) w (Bs.of_hd (hG.kn (g:=nb ρ 2) (o:=(cL (oc ρ 2) 5)) 1) (show Ap (oc ρ 2) ((xB 92 K)++(hL (aU ((xB 54 K)++S)))) (aZ ρ 2) from (hG.facts 2 rfl).now).hd (show Ap (oc ρ 2) ((xB 92 K)++(hL (aU ((xB 54 K)++S)))) (aZ ρ 2) from (hG.facts 2 rfl).now).le (show Ap (oc ρ 2) ((xB 92 K)++(hL (aU ((xB 54 K)++S)))) (aZ ρ 2) from (hG.facts 2 rfl).now).max)))<|jE [[0]]) (fun _ ap15_2=>aF ?_)))
 exact mR (v:=(.agg (hB (aU ((xB 92 K)++(hL (aU ((xB 54 K)++S)))))))) (fun _ hS=>⟨rfl,hS.bel⟩)
theorem rstep_any (k:Ky) (i:Nat) (hk:k.Ok) (hi:i<4294967296) (hsn:fC k=true) (w0:World):Calls prog 84 #[.agg (kY k),vu i] w0 (jR (.tuple #[.agg (kY (chK k i)),vi (chE k i)]) w0):=by
 refine Calls.of_ok (n:=88) (F:=(fun _=>True)) func84 rfl rfl rfl (by simp) jT (sS f84 3 [1,2,4,5] [] (fun ρ=>[pt (nb ρ 0),pt (nb ρ 1),vi 0]) (fun ρ=>[(0,(nw ρ 0 (cL (kY k) 66))),(1,(nw ρ 1 (cL (kC 0 0 0 0 0 0) 66)))]) (jE [[],[],[]]) (fun ρ1=>aB (jM f84 3 [1,2,4,5,12] [] [jp (nb ρ1 0) 40,vi k.d,.bool (decide (8≤k.d))] [[],[0],[]] (oC (decide (8≤k.d)) (fun hb1=>?_) (fun hb1=>?_)))))
 ·rw [hb1]
  refine sS f84 3 [1,2,4,5] [] (fun _=>[.agg (kC 0 0 0 0 0 0),undef,vi 4]) (fun _=>[(1,(bD 1 (nb ρ1 1) (cL (kC 0 0 0 0 0 0) 66)))]) (jE [[],[1],[]]) (fun _=>aF (aC ?_))
  exact mR (v:=(.tuple #[.agg (kC 0 0 0 0 0 0),vi 4])) (ps:=[1,1,1,1,1,1,1,1,1,1,1,1,1,1,1,1,1,1,1,1,1,1,1,1,1,1,1,1,1,1,1,1,1,1,1,1,1,1,1,1,1,1,1]) (fun _ hS=>⟨by rw [(ch_4 (i:=i) hsn (d8_t hsn hb1)).1,(ch_4 (i:=i) hsn (d8_t hsn hb1)).2];rfl,hS.bel⟩)
 rw [hb1]
 have:=yF hb1
 refine aG (aA (sS f84 5 [1,2,4,5,6] [] (fun _=>let qa:Value:=.bool (!(decide (k.s=0)));[pt (nb ρ1 0),U k.s,.bool (decide (k.s=0)),qa,qa]) (fun _=>[]) (cR [[],[0]]<|cC (fun _ w=>iI k.s w hk.s)<|jE [[],[]]) (fun _=>aB ?_)))
 rcases Bool.eq_false_or_eq_true (decide (2147483648≤((i:Nat):Int))) with hb2 | hb2
 ·refine sS f84 6 [1,2,4,5,6,23] [] (fun _=>let qa:Value:=.bool (!(!(decide (k.s=0))));[vu i,vT,vT,.bool (!(decide (k.s=0))),qa,qa]) (fun _=>[]) (cR [[]]<|cA (fun _=>vT) (fun _=>congrArg Value.bool hb2)<|jE [[],[],[],[]]) (fun _=>oC (!(!(decide (k.s=0)))) (fun hb3=>?_) (fun hb3=>?_))
  ·rw [hb3]
   refine sS f84 3 [1,2,4,5,6] [] (fun _=>[.agg (kC 0 0 0 0 0 0),undef,vi 250]) (fun _=>[(1,(bD 1 (nb ρ1 1) (cL (kC 0 0 0 0 0 0) 66)))]) (jE [[],[1],[]]) (fun _=>aF (aC ?_))
   exact mR (v:=(.tuple #[.agg (kC 0 0 0 0 0 0),vi 250])) (ps:=[1,1,1,1,1,1,1,1,1,1,1,1,1,1,1,1,1,1,1,1,1,1,1,1,1,1,1,1,1,1,1,1,1,1,1,1,1,1,1,1,1,1,1]) (fun _ hS=>⟨by rw [(ch_250 hsn (zC hb1) (hd_t hb2) (yT (aV (dF hb3)))).1,(ch_250 hsn (zC hb1) (hd_t hb2) (yT (aV (dF hb3)))).2];rfl,hS.bel⟩)
  rw [hb3]
  refine aG (aA (sDf f84 [0,1,0,4,12,31,63,0,255,511,0,2047] 12 [1,2,4,5,6,7] [1,1,0,1] (fun ρ=>[jp (nb ρ1 0) 8,.slice (some ⟨nb ρ1 0,8,none⟩) (hL k.c).length 32,jp (nb ρ1 0) 4,U k.p,.slice (oa ρ 4) (hL k.p).length (nb ρ 4),vs (nb ρ 5) 2 2,.slice (oa ρ 6) ((hL k.c)++(hL k.p)).length (nb ρ 6),vu i,.slice (oa ρ 8) (((hL k.c)++(hL k.p))++leB i 4).length (nb ρ 8),.agg (hB (lV tgS (((hL k.c)++(hL k.p))++leB i 4))),pt (nb ρ 10),undef]) (fun ρ=>[(5,(nw ρ 5 (cL #[.slice (some ⟨nb ρ1 0,8,none⟩) (hL k.c).length 32,.slice (oa ρ 4) (hL k.p).length (nb ρ 4)] 37))),(10,(nw ρ 10 (cL (hB 0) 57))),(11,(bD 82 (nb ρ 10) (cL (hB (lV tgS (((hL k.c)++(hL k.p))++leB i 4))) 57)))]) (fun ρ=>[(4,fun w=>Fs w0 w (oa ρ 4) (nb ρ 4) (hL k.p)),(6,fun w=>Fs w0 w (oa ρ 6) (nb ρ 6) ((hL k.c)++(hL k.p))),(8,fun w=>Fs w0 w (oa ρ 8) (nb ρ 8) (((hL k.c)++(hL k.p))++leB i 4))]) (fun ρ=>(fun w=>Fs w0 w (oa ρ 4) (nb ρ 4) (hL k.p)∧Fs w0 w (oa ρ 6) (nb ρ 6) ((hL k.c)++(hL k.p))∧Fs w0 w (oa ρ 8) (nb ρ 8) (((hL k.c)++(hL k.p))++leB i 4)∧True)) (fun _=>True) (fun _ _ _ hf=>⟨⟨hf 4,hf 6,hf 8,trivial⟩,trivial⟩) (cR [[],[],[],[0]]<|cX (qB (fun _ _ w _=>oJ k.p hk.p w))<|cR [[]]<|cX (qB (fun ρ _ w hG=>join2_any (nb ρ 5) (some ⟨nb ρ1 0,8,none⟩) 32 (hL k.c) (oa ρ 4) (nb ρ 4) (hL k.p) (by simp only [aO];omega) (by rw [aO];decide) w (Kb.of_block (hG.kn (g:=nb ρ 5) (o:=(cL #[.slice (some ⟨nb ρ1 0,8,none⟩) (hL k.c).length 32,.slice (oa ρ 4) (hL k.p).length (nb ρ 4)] 37)) 42)) (Bs.of_key (hG.kn (g:=nb ρ1 0) (o:=(cL (kY k) 66)) 0)) (show Fs w0 w (oa ρ 4) (nb ρ 4) (hL k.p) from (hG.facts 4 rfl).now).1))<|cR [[]]<|cX (qB (fun ρ _ w hG=>rM (oa ρ 6) (nb ρ 6) ((hL k.c)++(hL k.p)) i (oA (yT hb2)) (by simp only [List.length_append,aO];have:=yT hb2;omega) w (show Fs w0 w (oa ρ 6) (nb ρ 6) ((hL k.c)++(hL k.p)) from (hG.facts 6 rfl).now).1))<|cX (qC (fun ρ _ w hG=>wK tgS (oa ρ 8) (nb ρ 8) (((hL k.c)++(hL k.p))++leB i 4) (by decide) (by simp only [List.length_append,aO,eQ];omega) w (show Fs w0 w (oa ρ 8) (nb ρ 8) (((hL k.c)++(hL k.p))++leB i 4) from (hG.facts 8 rfl).now).1))<|jE [[],[82]]) (fun ρ7 _=>aB (sS f84 2 [1,2,4,5,6,7,36] [] (fun _=>[vu i,vT]) (fun _=>[]) (cR [[]]<|cA (fun _=>vT) (fun _=>congrArg Value.bool hb2)<|cN) (fun _=>oY (rDf f84 [0,1,0,4,12,31,63,0,255,511,1023] 11 [1,2,4,5,6,7] [1,1,1,0] (fun ρ=>[jp (nb ρ1 0) 8,.slice (some ⟨nb ρ1 0,8,none⟩) (hL k.c).length 32,pt (nb ρ1 0),U k.s,.slice (oa ρ 4) (hL k.s).length (nb ρ 4),vs (nb ρ 5) 2 2,.slice (oa ρ 6) ((hL k.c)++(hL k.s)).length (nb ρ 6),vu i,.slice (oa ρ 8) (((hL k.c)++(hL k.s))++leB i 4).length (nb ρ 8),.agg (hB (bT k i)),undef]) (fun ρ=>[(5,(nw ρ 5 (cL #[.slice (some ⟨nb ρ1 0,8,none⟩) (hL k.c).length 32,.slice (oa ρ 4) (hL k.s).length (nb ρ 4)] 37))),(10,(bD 2 (nb ρ7 10) (cL (hB (bT k i)) 57)))]) (fun ρ=>[(4,fun w=>Fs w0 w (oa ρ 4) (nb ρ 4) (hL k.s)),(6,fun w=>Fs w0 w (oa ρ 6) (nb ρ 6) ((hL k.c)++(hL k.s))),(8,fun w=>Fs w0 w (oa ρ 8) (nb ρ 8) (((hL k.c)++(hL k.s))++leB i 4))]) (fun ρ=>(fun w=>Fs w0 w (oa ρ7 4) (nb ρ7 4) (hL k.p)∧Fs w0 w (oa ρ7 6) (nb ρ7 6) ((hL k.c)++(hL k.p))∧Fs w0 w (oa ρ7 8) (nb ρ7 8) (((hL k.c)++(hL k.p))++leB i 4)∧Fs w0 w (oa ρ 4) (nb ρ 4) (hL k.s)∧Fs w0 w (oa ρ 6) (nb ρ 6) ((hL k.c)++(hL k.s))∧Fs w0 w (oa ρ 8) (nb ρ 8) (((hL k.c)++(hL k.s))++leB i 4)∧True)) (fun _=>True) (fun _ _ hF hf=>⟨⟨hF.1,hF.2.1,hF.2.2.1,hf 4,hf 6,hf 8,trivial⟩,trivial⟩) (cR [[],[],[],[0]]<|cX (qB (fun _ _ w _=>oJ k.s hk.s w))<|cR [[]]<|cX (qB (fun ρ _ w hG=>join2_any (nb ρ 5) (some ⟨nb ρ1 0,8,none⟩) 32 (hL k.c) (oa ρ 4) (nb ρ 4) (hL k.s) (by simp only [aO];omega) (by rw [aO];decide) w (Kb.of_block (hG.kn (g:=nb ρ 5) (o:=(cL #[.slice (some ⟨nb ρ1 0,8,none⟩) (hL k.c).length 32,.slice (oa ρ 4) (hL k.s).length (nb ρ 4)] 37)) 43)) (Bs.of_key (hG.kn (g:=nb ρ1 0) (o:=(cL (kY k) 66)) 0)) (show Fs w0 w (oa ρ 4) (nb ρ 4) (hL k.s) from (hG.facts 4 rfl).now).1))<|cR [[]]<|cX (qB (fun ρ _ w hG=>rM (oa ρ 6) (nb ρ 6) ((hL k.c)++(hL k.s)) i (oA (yT hb2)) (by simp only [List.length_append,aO];have:=yT hb2;omega) w (show Fs w0 w (oa ρ 6) (nb ρ 6) ((hL k.c)++(hL k.s)) from (hG.facts 6 rfl).now).1))<|cX (lN _ 113 (fun ρ=> #[.string ⟨#[108,105,103,104,116,99,108,105,101,110,116,47,104,97,114,100]⟩,.slice (oa ρ 8) (((hL k.c)++(hL k.s))++leB i 4).length (nb ρ 8)]) (fun _=>(.agg (hB (bT k i)))) (fun _ _=>(by kernel_rfl)) (fun _=>(by kernel_rfl)) (fun _ _=>(by kernel_rfl)) (fun _ _=>trivial) (fun ρ _ w hG=>(by as_aux_lemma=>(have hcall:=wK tgH (oa ρ 8) (nb ρ 8) (((hL k.c)++(hL k.s))++leB i 4) (by decide) (by simp only [List.length_append,aO,eQ];omega) w (show Fs w0 w (oa ρ 8) (nb ρ 8) (((hL k.c)++(hL k.s))++leB i 4) from (hG.facts 8 rfl).now).1;rw [twk_1 (k:=k) hb2] at hcall;exact hcall))))<|jE [[2]]) (fun _ _=>aA (sD f84 [0,1,0,7,0,16,48,0,0,271,1023,0,4095] 13 [2,4,5,6,7,8] [] (fun ρ=>[jp (nb ρ1 0) 8,.slice (some ⟨nb ρ1 0,8,none⟩) (hL k.c).length 32,vs (nb ρ7 10) (hL (bT k i)).length 32,.agg (hB (hmN k.c (hL (bT k i)))),jp (nb ρ1 0) 40,vi k.d,vi (k.d+1),vu i,.agg (kY k),vu (o8 k.p),.agg (kC 0 0 (hmN k.c (hL (bT k i))) (k.d+1) ((i:Nat):Int) ((o8 k.p:Nat):Int)),pt (nb ρ 11),undef]) (fun ρ=>[(11,(nw ρ 11 (cL (kC 0 0 0 0 0 0) 66))),(12,(bD 91 (nb ρ 11) (cL (kC 0 0 (hmN k.c (hL (bT k i))) (k.d+1) ((i:Nat):Int) ((o8 k.p:Nat):Int)) 66)))]) (cR [[],[],[]]<|cX (qC (fun _ _ w hG=>rhmac_any (some ⟨nb ρ1 0,8,none⟩) 32 k.c (some ⟨nb ρ7 10,0,none⟩) 32 (hL (bT k i)) (by rw [aO];decide) w (Bs.of_key (hG.kn (g:=nb ρ1 0) (o:=(cL (kY k) 66)) 0)) (Bs.of_hd (c:=32) (hG.kn (g:=nb ρ7 10) (o:=(cL (hB (bT k i)) 57)) 2) (tN _) (Nat.le_refl _) (Nat.le_of_ble_eq_true rfl))))<|cR [[],[0]]<|jU (fun ρ=>(k.d+1)) (fun _=>(k.d+1)) (fun _=>(gZ (oA (oI hsn))))<|cR [[],[0]]<|cX (qC (fun _ _ w _=>rkprint_any k hk w))<|jE [[],[],[91]]) (fun ρ10=>lK [(2,(pt (nb ρ1 0))),(4,(pt (nb ρ1 1))),(5,(vi 0)),(6,(.bool (!(decide (k.s=0))))),(7,(pt (nb ρ7 10))),(8,(pt (nb ρ10 11)))] [(nb ρ1 0,(cL (kY k) 66)),(nb ρ1 1,(cL (kC 0 0 0 0 0 0) 66)),(nb ρ7 10,(cL (hB (bT k i)) 57)),(nb ρ10 11,(cL (kC 0 0 (hmN k.c (hL (bT k i))) (k.d+1) ((i:Nat):Int) ((o8 k.p:Nat):Int)) 66))] (jJ f84 1 [2,4,5,6,7,8,9] [vi 0] (aB (jJ f84 1 [2,4,5,6,7,8,9,58] [.bool (!(decide (k.s=0)))] (oC (!(decide (k.s=0))) (fun hb4=>?_) (fun hb4=>?_))))))))))))))
  ·rw [hb4]
   refine rS f84 10 [4,5,6,8,9] [0,1,0,1] (fun _=>let qa:=vi (nY k.s (bT k i));[pt (nb ρ1 0),U k.s,.agg (hB (bT k i)),.tuple #[U (fO k.s (bT k i)),qa],.tuple #[U (fO k.s (bT k i)),qa],U (fO k.s (bT k i)),qa,pt (nb ρ10 11),undef,qa]) (fun _=>[(8,(bD 3 (nb ρ10 11) (cL (kC (fO k.s (bT k i)) 0 (hmN k.c (hL (bT k i))) (k.d+1) ((i:Nat):Int) ((o8 k.p:Nat):Int)) 66)))]) (cR [[],[0],[2]]<|cC (f:=118) (args:=fun ρ=> #[U k.s,.agg (hB (bT k i))]) (v:=fun ρ=>(.tuple #[U (fO k.s (bT k i)),vi (nY k.s (bT k i))])) (fun _ w=>(fun w=>sJ k.s (bT k i) hk.s (twk_lt _ _) w) w)<|jE [[],[],[],[],[3],[]]) (fun _=>aA (aB (jJ f84 2 [4,5,6,8,9,76] [vi (nY k.s (bT k i)),.bool ((nY k.s (bT k i)) != 0)] (oC ((nY k.s (bT k i)) != 0) (fun hb5=>?_) (fun hb5=>?_)))))
   ·rw [hb5]
    refine sS f84 4 [4,5,6,8] [] (fun _=>[.agg (kC 0 0 0 0 0 0),vi (nY k.s (bT k i)),undef,vi (nY k.s (bT k i))]) (fun _=>[(2,(bD 0 (nb ρ1 1) (cL (kC 0 0 0 0 0 0) 66)))]) (jE [[],[],[0],[]]) (fun _=>aF (aC ?_))
    exact mR (v:=(.tuple #[.agg (kC 0 0 0 0 0 0),vi (nY k.s (bT k i))])) (fun _ hS=>⟨by rw [(ch_s1 hsn (zC hb1) (Or.inr (yF (dF hb4))) (yF (dF hb4)) (xAU hb5)).1,(ch_s1 hsn (zC hb1) (Or.inr (yF (dF hb4))) (yF (dF hb4)) (xAU hb5)).2]<;>rfl,hS.bel⟩)
   rw [hb5]
   refine aG (aA (aB (jJ f84 1 [4,5,8,79] [vT] (oY (rS f84 8 [4,5,8] [] (fun _=>let qa:=vi (iW (fO k.s (bT k i)));[pt (nb ρ10 11),U (fO k.s (bT k i)),.tuple #[U (dK (fO k.s (bT k i))),qa],.tuple #[U (dK (fO k.s (bT k i))),qa],U (dK (fO k.s (bT k i))),qa,jp (nb ρ10 11) 4,undef]) (fun _=>[(7,(bD 1 (nb ρ10 11) (cL (kC (fO k.s (bT k i)) (dK (fO k.s (bT k i))) (hmN k.c (hL (bT k i))) (k.d+1) ((i:Nat):Int) ((o8 k.p:Nat):Int)) 66)))]) (cR [[],[1]]<|cC (f:=101) (args:=fun ρ=> #[U (fO k.s (bT k i))]) (v:=fun ρ=>(.tuple #[U (dK (fO k.s (bT k i))),vi (iW (fO k.s (bT k i)))])) (fun _ w=>(fun w=>rE (fO k.s (bT k i)) (tsV_lt _ _) w) w)<|jE [[],[],[],[],[1]]) (fun _=>aA (sS f84 3 [4,5] [1,0] (fun _=>[.agg (kC (fO k.s (bT k i)) (dK (fO k.s (bT k i))) (hmN k.c (hL (bT k i))) (k.d+1) ((i:Nat):Int) ((o8 k.p:Nat):Int)),undef,vi 0]) (fun _=>[(1,(bD 0 (nb ρ1 1) (cL (kC (fO k.s (bT k i)) (dK (fO k.s (bT k i))) (hmN k.c (hL (bT k i))) (k.d+1) ((i:Nat):Int) ((o8 k.p:Nat):Int)) 66)))]) (jE [[1],[0],[]]) (fun _=>aF ?_))))))))
   exact mR (v:=(.tuple #[.agg (kC (fO k.s (bT k i)) (dK (fO k.s (bT k i))) (hmN k.c (hL (bT k i))) (k.d+1) ((i:Nat):Int) ((o8 k.p:Nat):Int)),vi 0])) (fun _ hS=>⟨by rw [(ch_s0 hsn (zC hb1) (Or.inr (yF (dF hb4))) (yF (dF hb4)) (o5 hb5)).1,(ch_s0 hsn (zC hb1) (Or.inr (yF (dF hb4))) (yF (dF hb4)) (o5 hb5)).2]<;>rfl,hS.bel⟩)
  exact absurd ((show (!(decide (k.s=0)))=true from (aV hb3)).symm.trans hb4) (by decide)
 refine sS f84 6 [1,2,4,5,6,23] [] (fun _=>[vu i,vF,vF,undef,undef,vF]) (fun _=>[]) (cR [[]]<|cA (fun _=>vF) (fun _=>congrArg Value.bool hb2)<|jE [[],[],[],[]]) (fun _=>oN (aG (aA (sDf f84 [0,1,0,4,12,31,63,0,255,511,0,2047] 12 [1,2,4,5,6,7] [1,1,0,1] (fun ρ=>[jp (nb ρ1 0) 8,.slice (some ⟨nb ρ1 0,8,none⟩) (hL k.c).length 32,jp (nb ρ1 0) 4,U k.p,.slice (oa ρ 4) (hL k.p).length (nb ρ 4),vs (nb ρ 5) 2 2,.slice (oa ρ 6) ((hL k.c)++(hL k.p)).length (nb ρ 6),vu i,.slice (oa ρ 8) (((hL k.c)++(hL k.p))++leB i 4).length (nb ρ 8),.agg (hB (bT k i)),pt (nb ρ 10),undef]) (fun ρ=>[(5,(nw ρ 5 (cL #[.slice (some ⟨nb ρ1 0,8,none⟩) (hL k.c).length 32,.slice (oa ρ 4) (hL k.p).length (nb ρ 4)] 37))),(10,(nw ρ 10 (cL (hB 0) 57))),(11,(bD 82 (nb ρ 10) (cL (hB (bT k i)) 57)))]) (fun ρ=>[(4,fun w=>Fs w0 w (oa ρ 4) (nb ρ 4) (hL k.p)),(6,fun w=>Fs w0 w (oa ρ 6) (nb ρ 6) ((hL k.c)++(hL k.p))),(8,fun w=>Fs w0 w (oa ρ 8) (nb ρ 8) (((hL k.c)++(hL k.p))++leB i 4))]) (fun ρ=>(fun w=>Fs w0 w (oa ρ 4) (nb ρ 4) (hL k.p)∧Fs w0 w (oa ρ 6) (nb ρ 6) ((hL k.c)++(hL k.p))∧Fs w0 w (oa ρ 8) (nb ρ 8) (((hL k.c)++(hL k.p))++leB i 4)∧True)) (fun _=>True) (fun _ _ _ hf=>⟨⟨hf 4,hf 6,hf 8,trivial⟩,trivial⟩) (cR [[],[],[],[0]]<|cX (qB (fun _ _ w _=>oJ k.p hk.p w))<|cR [[]]<|cX (qB (fun ρ _ w hG=>join2_any (nb ρ 5) (some ⟨nb ρ1 0,8,none⟩) 32 (hL k.c) (oa ρ 4) (nb ρ 4) (hL k.p) (by simp only [aO];omega) (by rw [aO];decide) w (Kb.of_block (hG.kn (g:=nb ρ 5) (o:=(cL #[.slice (some ⟨nb ρ1 0,8,none⟩) (hL k.c).length 32,.slice (oa ρ 4) (hL k.p).length (nb ρ 4)] 37)) 42)) (Bs.of_key (hG.kn (g:=nb ρ1 0) (o:=(cL (kY k) 66)) 0)) (show Fs w0 w (oa ρ 4) (nb ρ 4) (hL k.p) from (hG.facts 4 rfl).now).1))<|cR [[]]<|cX (qB (fun ρ _ w hG=>rM (oa ρ 6) (nb ρ 6) ((hL k.c)++(hL k.p)) i (oA (yF hb2)) (by simp only [List.length_append,aO];have:=yF hb2;omega) w (show Fs w0 w (oa ρ 6) (nb ρ 6) ((hL k.c)++(hL k.p)) from (hG.facts 6 rfl).now).1))<|cX (lN _ 113 (fun ρ=> #[.string ⟨#[108,105,103,104,116,99,108,105,101,110,116,47,115,111,102,116]⟩,.slice (oa ρ 8) (((hL k.c)++(hL k.p))++leB i 4).length (nb ρ 8)]) (fun _=>(.agg (hB (bT k i)))) (fun _ _=>(by kernel_rfl)) (fun _=>(by kernel_rfl)) (fun _ _=>(by kernel_rfl)) (fun _ _=>trivial) (fun ρ _ w hG=>(by as_aux_lemma=>(have hcall:=wK tgS (oa ρ 8) (nb ρ 8) (((hL k.c)++(hL k.p))++leB i 4) (by decide) (by simp only [List.length_append,aO,eQ];omega) w (show Fs w0 w (oa ρ 8) (nb ρ 8) (((hL k.c)++(hL k.p))++leB i 4) from (hG.facts 8 rfl).now).1;rw [twk_0 (k:=k) hb2] at hcall;exact hcall))))<|jE [[],[82]]) (fun ρ20 _=>aB (sS f84 2 [1,2,4,5,6,7,36] [] (fun _=>[vu i,vF]) (fun _=>[]) (cR [[]]<|cA (fun _=>vF) (fun _=>congrArg Value.bool hb2)<|cN) (fun _=>oN (aG (aA (sD f84 [0,1,0,7,0,16,48,0,0,271,1023,0,4095] 13 [2,4,5,6,7,8] [] (fun ρ=>[jp (nb ρ1 0) 8,.slice (some ⟨nb ρ1 0,8,none⟩) (hL k.c).length 32,vs (nb ρ20 10) (hL (bT k i)).length 32,.agg (hB (hmN k.c (hL (bT k i)))),jp (nb ρ1 0) 40,vi k.d,vi (k.d+1),vu i,.agg (kY k),vu (o8 k.p),.agg (kC 0 0 (hmN k.c (hL (bT k i))) (k.d+1) ((i:Nat):Int) ((o8 k.p:Nat):Int)),pt (nb ρ 11),undef]) (fun ρ=>[(11,(nw ρ 11 (cL (kC 0 0 0 0 0 0) 66))),(12,(bD 91 (nb ρ 11) (cL (kC 0 0 (hmN k.c (hL (bT k i))) (k.d+1) ((i:Nat):Int) ((o8 k.p:Nat):Int)) 66)))]) (cR [[],[],[]]<|cX (qC (fun _ _ w hG=>rhmac_any (some ⟨nb ρ1 0,8,none⟩) 32 k.c (some ⟨nb ρ20 10,0,none⟩) 32 (hL (bT k i)) (by rw [aO];decide) w (Bs.of_key (hG.kn (g:=nb ρ1 0) (o:=(cL (kY k) 66)) 0)) (Bs.of_hd (c:=32) (hG.kn (g:=nb ρ20 10) (o:=(cL (hB (bT k i)) 57)) 2) (tN _) (Nat.le_refl _) (Nat.le_of_ble_eq_true rfl))))<|cR [[],[0]]<|jU (fun ρ=>(k.d+1)) (fun _=>(k.d+1)) (fun _=>(gZ (oA (oI hsn))))<|cR [[],[0]]<|cX (qC (fun _ _ w _=>rkprint_any k hk w))<|jE [[],[],[91]]) (fun ρ22=>lK [(2,(pt (nb ρ1 0))),(4,(pt (nb ρ1 1))),(5,(vi 0)),(6,(.bool (!(decide (k.s=0))))),(7,(pt (nb ρ20 10))),(8,(pt (nb ρ22 11)))] [(nb ρ1 0,(cL (kY k) 66)),(nb ρ1 1,(cL (kC 0 0 0 0 0 0) 66)),(nb ρ20 10,(cL (hB (bT k i)) 57)),(nb ρ22 11,(cL (kC 0 0 (hmN k.c (hL (bT k i))) (k.d+1) ((i:Nat):Int) ((o8 k.p:Nat):Int)) 66))] (jJ f84 1 [2,4,5,6,7,8,9] [vi 0] (aB (jJ f84 1 [2,4,5,6,7,8,9,58] [.bool (!(decide (k.s=0)))] (oC (!(decide (k.s=0))) (fun hb6=>?_) (fun hb6=>?_))))))))))))))))
 ·rw [hb6]
  refine rS f84 10 [4,5,6,8,9] [0,1,0,1] (fun _=>let qa:=vi (nY k.s (bT k i));[pt (nb ρ1 0),U k.s,.agg (hB (bT k i)),.tuple #[U (fO k.s (bT k i)),qa],.tuple #[U (fO k.s (bT k i)),qa],U (fO k.s (bT k i)),qa,pt (nb ρ22 11),undef,qa]) (fun _=>[(8,(bD 3 (nb ρ22 11) (cL (kC (fO k.s (bT k i)) 0 (hmN k.c (hL (bT k i))) (k.d+1) ((i:Nat):Int) ((o8 k.p:Nat):Int)) 66)))]) (cR [[],[0],[2]]<|cC (f:=118) (args:=fun ρ=> #[U k.s,.agg (hB (bT k i))]) (v:=fun ρ=>(.tuple #[U (fO k.s (bT k i)),vi (nY k.s (bT k i))])) (fun _ w=>(fun w=>sJ k.s (bT k i) hk.s (twk_lt _ _) w) w)<|jE [[],[],[],[],[3],[]]) (fun _=>aA (aB (jJ f84 2 [4,5,6,8,9,76] [vi (nY k.s (bT k i)),.bool ((nY k.s (bT k i)) != 0)] (oC ((nY k.s (bT k i)) != 0) (fun hb7=>?_) (fun hb7=>?_)))))
  ·rw [hb7]
   refine sS f84 4 [4,5,6,8] [] (fun _=>[.agg (kC 0 0 0 0 0 0),vi (nY k.s (bT k i)),undef,vi (nY k.s (bT k i))]) (fun _=>[(2,(bD 0 (nb ρ1 1) (cL (kC 0 0 0 0 0 0) 66)))]) (jE [[],[],[0],[]]) (fun _=>aF (aC ?_))
   exact mR (v:=(.tuple #[.agg (kC 0 0 0 0 0 0),vi (nY k.s (bT k i))])) (fun _ hS=>⟨by rw [(ch_s1 hsn (zC hb1) (Or.inr (yF (dF hb6))) (yF (dF hb6)) (xAU hb7)).1,(ch_s1 hsn (zC hb1) (Or.inr (yF (dF hb6))) (yF (dF hb6)) (xAU hb7)).2]<;>rfl,hS.bel⟩)
  rw [hb7]
  refine aG (aA (aB (jJ f84 1 [4,5,8,79] [vT] (oY (rS f84 8 [4,5,8] [] (fun _=>let qa:=vi (iW (fO k.s (bT k i)));[pt (nb ρ22 11),U (fO k.s (bT k i)),.tuple #[U (dK (fO k.s (bT k i))),qa],.tuple #[U (dK (fO k.s (bT k i))),qa],U (dK (fO k.s (bT k i))),qa,jp (nb ρ22 11) 4,undef]) (fun _=>[(7,(bD 1 (nb ρ22 11) (cL (kC (fO k.s (bT k i)) (dK (fO k.s (bT k i))) (hmN k.c (hL (bT k i))) (k.d+1) ((i:Nat):Int) ((o8 k.p:Nat):Int)) 66)))]) (cR [[],[1]]<|cC (f:=101) (args:=fun ρ=> #[U (fO k.s (bT k i))]) (v:=fun ρ=>(.tuple #[U (dK (fO k.s (bT k i))),vi (iW (fO k.s (bT k i)))])) (fun _ w=>(fun w=>rE (fO k.s (bT k i)) (tsV_lt _ _) w) w)<|jE [[],[],[],[],[1]]) (fun _=>aA (sS f84 3 [4,5] [1,0] (fun _=>[.agg (kC (fO k.s (bT k i)) (dK (fO k.s (bT k i))) (hmN k.c (hL (bT k i))) (k.d+1) ((i:Nat):Int) ((o8 k.p:Nat):Int)),undef,vi 0]) (fun _=>[(1,(bD 0 (nb ρ1 1) (cL (kC (fO k.s (bT k i)) (dK (fO k.s (bT k i))) (hmN k.c (hL (bT k i))) (k.d+1) ((i:Nat):Int) ((o8 k.p:Nat):Int)) 66)))]) (jE [[1],[0],[]]) (fun _=>aF ?_))))))))
  exact mR (v:=(.tuple #[.agg (kC (fO k.s (bT k i)) (dK (fO k.s (bT k i))) (hmN k.c (hL (bT k i))) (k.d+1) ((i:Nat):Int) ((o8 k.p:Nat):Int)),vi 0])) (fun _ hS=>⟨by rw [(ch_s0 hsn (zC hb1) (Or.inr (yF (dF hb6))) (yF (dF hb6)) (o5 hb7)).1,(ch_s0 hsn (zC hb1) (Or.inr (yF (dF hb6))) (yF (dF hb6)) (o5 hb7)).2]<;>rfl,hS.bel⟩)
 rw [hb6]
 refine rS f84 10 [4,5,6,8,9] [0,1,0,1] (fun _=>let qa:=vi (wY k.p (bT k i));[jp (nb ρ1 0) 4,U k.p,.agg (hB (bT k i)),.tuple #[U (yS k.p (bT k i)),qa],.tuple #[U (yS k.p (bT k i)),qa],U (yS k.p (bT k i)),qa,jp (nb ρ22 11) 4,undef,qa]) (fun _=>[(8,(bD 3 (nb ρ22 11) (cL (kC 0 (yS k.p (bT k i)) (hmN k.c (hL (bT k i))) (k.d+1) ((i:Nat):Int) ((o8 k.p:Nat):Int)) 66)))]) (cR [[],[0],[2]]<|cC (f:=119) (args:=fun ρ=> #[U k.p,.agg (hB (bT k i))]) (v:=fun ρ=>(.tuple #[U (yS k.p (bT k i)),vi (wY k.p (bT k i))])) (fun _ w=>(fun w=>rtweak_any k.p (bT k i) hk.p (twk_lt _ _) w) w)<|jE [[],[],[],[],[3],[]]) (fun _=>aA (aB (jJ f84 2 [4,5,6,8,9,76] [vi (wY k.p (bT k i)),.bool ((wY k.p (bT k i)) != 0)] (oC ((wY k.p (bT k i)) != 0) (fun hb8=>?_) (fun hb8=>?_)))))
 ·rw [hb8]
  refine sS f84 4 [4,5,6,8] [] (fun _=>[.agg (kC 0 0 0 0 0 0),vi (wY k.p (bT k i)),undef,vi (wY k.p (bT k i))]) (fun _=>[(2,(bD 0 (nb ρ1 1) (cL (kC 0 0 0 0 0 0) 66)))]) (jE [[],[],[0],[]]) (fun _=>aF (aC ?_))
  exact mR (v:=(.tuple #[.agg (kC 0 0 0 0 0 0),vi (wY k.p (bT k i))])) (fun _ hS=>⟨by rw [(ch_p1 hsn (zC hb1) (Or.inl (hd_f hb2)) (yT (aV hb6)) (xAU hb8)).1,(ch_p1 hsn (zC hb1) (Or.inl (hd_f hb2)) (yT (aV hb6)) (xAU hb8)).2]<;>rfl,hS.bel⟩)
 rw [hb8]
 refine aG (aA (aB (jJ f84 1 [4,5,8,79] [vF] (oN (aG (aA (sS f84 3 [4,5] [1,0] (fun _=>[.agg (kC 0 (yS k.p (bT k i)) (hmN k.c (hL (bT k i))) (k.d+1) ((i:Nat):Int) ((o8 k.p:Nat):Int)),undef,vi 0]) (fun _=>[(1,(bD 0 (nb ρ1 1) (cL (kC 0 (yS k.p (bT k i)) (hmN k.c (hL (bT k i))) (k.d+1) ((i:Nat):Int) ((o8 k.p:Nat):Int)) 66)))]) (jE [[1],[0],[]]) (fun _=>aF ?_))))))))
 exact mR (v:=(.tuple #[.agg (kC 0 (yS k.p (bT k i)) (hmN k.c (hL (bT k i))) (k.d+1) ((i:Nat):Int) ((o8 k.p:Nat):Int)),vi 0])) (fun _ hS=>⟨by rw [(ch_p0 hsn (zC hb1) (Or.inl (hd_f hb2)) (yT (aV hb6)) (o5 hb8)).1,(ch_p0 hsn (zC hb1) (Or.inl (hd_f hb2)) (yT (aV hb6)) (o5 hb8)).2]<;>rfl,hS.bel⟩)
theorem vJ (k:Ky) (a:Option Addr) (c:Nat) (ps:List Nat) (hk:k.Ok) (hp:∀ i∈ps,i<4294967296) (w0:World) (hf0:Is w0 .u32 a c (nI ps)):Calls prog 62 #[.agg (kY k),.slice a (nI ps).length c] w0 (jR (.tuple #[.agg (kY (iQ k ps)),vi (nM k ps)]) w0):=by
 refine Calls.of_ok (n:=34) (F:=(fun w=>Is w .u32 a c (nI ps)∧True)) func62 rfl rfl rfl (by simp) (hf0.pers0.and cO) ?_
 have hlen:(nI ps).length≤140737488351232:=hf0.max
 refine sS f62 3 [1,2,4,5] [] (fun ρ=>[pt (nb ρ 0),pt (nb ρ 1),vi 0]) (fun ρ=>[(0,(nw ρ 0 (cL (kY k) 66))),(1,(nw ρ 1 (cL (kC 0 0 0 0 0 0) 66)))]) (jE [[],[],[]]) (fun ρ1=>aB (sS f62 3 [1,2,4,5,11] [] (fun _=>[.agg (kY k),.bool (fC k),.bool (!(fC k))]) (fun _=>[]) (cR [[0]]<|cC (fun _ w=>oQ k hk w)<|jE [[]]) (fun _=>oC (!(fC k)) (fun hb1=>?_) (fun hb1=>?_))))
 ·rw [hb1]
  refine sS f62 3 [1,2,4,5] [] (fun _=>[.agg (kC 0 0 0 0 0 0),undef,vi 6]) (fun _=>[(1,(bD 1 (nb ρ1 1) (cL (kC 0 0 0 0 0 0) 66)))]) (jE [[],[1],[]]) (fun _=>aF (aC ?_))
  exact mR (v:=(.tuple #[.agg (kC 0 0 0 0 0 0),vi 6])) (ps:=[1,1,1,1,1,1,1,1,1,1,1,1,1,1,1,1,1,1,1,1,1,1,1,1,1,1,1,1,1,1,1,1,1,1,1,1,1,1,1,1,1,1,1]) (fun _ hS=>⟨by rw [(dr_6 (dF hb1)).1,(dr_6 (dF hb1)).2];rfl,hS.bel⟩)
 rw [hb1]
 refine aG (aA (aB (jJ f62 1 [1,2,4,5,6] [vi 0] (aI ?_))))
 refine oL (σ:=Nat × Ky) (fun ⟨j,_⟩=>[(1,(.slice a (nI ps).length c)),(2,(pt (nb ρ1 0))),(4,(pt (nb ρ1 1))),(6,(vn j))]) (fun ⟨_,x⟩=>[(nb ρ1 0,(cL (kY x) 66)),(nb ρ1 1,(cL (kC 0 0 0 0 0 0) 66))]) (fun ⟨j,_⟩=>(nI ps).length-j)
  (fun ⟨j,x⟩=>(j≤(nI ps).length)∧x.Ok∧(fC x=true)∧(dvE x (ps.drop j)=dvE k ps)∧(dvK x (ps.drop j)=dvK k ps)) (0,k) (⟨Nat.zero_le _,hk,aV hb1,rfl,rfl⟩) [] ?_
 rintro ⟨j,x⟩ ⟨hj,hx,hsx,hE,hK⟩
 refine aB (jJ f62 4 [1,2,4,6,16] [vn j,.slice a (nI ps).length c,vn (nI ps).length,.bool (decide (((j:Nat):Int)<(((nI ps).length:Nat):Int)))] (oC (decide (((j:Nat):Int)<(((nI ps).length:Nat):Int))) (fun hb2=>?_) (fun hb2=>?_)))
 ·rw [hb2]
  have:=yT hb2
  refine aG (aA (aB (aI (sD f62 [0,0,0,6,14,31,63,127,127,0,767,2047] 12 [1,2,4,6,7,8] [] (fun ρ=>let qa:=vi (chE x (ps.getD j 0));let qb:Value:=.agg (kY (chK x (ps.getD j 0)));[.agg (kY x),.slice a (nI ps).length c,vn j,.pointer (fK a j),vu (ps.getD j 0),.tuple #[qb,qa],.tuple #[qb,qa],qb,qa,pt (nb ρ 9),undef,qa]) (fun ρ=>[(9,(nw ρ 9 (cL (kC 0 0 0 0 0 0) 66))),(10,(bD 74 (nb ρ 9) (cL (kY (chK x (ps.getD j 0))) 66)))]) (cR [[0],[],[]]<|cX (qF (fun _ _ _ hG=>o6 (k:=.i64) underlying67 sizeOf55 hG.fn.1 rfl (show ((j:Nat):Int)=((j:Nat):Int) from rfl) (show j<(nI ps).length from om)))<|cX (qF (v:=fun ρ=>(vu (ps.getD j 0))) (fun _ _ _ hG=>(rG isAgg55 hG.fn.1 (show j<(nI ps).length from om)).trans (by rw [yQ])))<|cX (qC (fun _ _ w _=>rstep_any x (ps.getD j 0) hx (get_all hp (by decide) j) hsx w))<|jE [[],[],[],[],[74],[]]) (fun _=>aB (jJ f62 2 [1,2,4,6,7,8,29] [vi (chE x (ps.getD j 0)),.bool ((chE x (ps.getD j 0)) != 0)] (oC ((chE x (ps.getD j 0)) != 0) (fun hb3=>?_) (fun hb3=>?_))))))))
  ·rw [hb3]
   refine sS f62 4 [1,2,4,5,6,7] [] (fun _=>let qa:=vi (chE x (ps.getD j 0));[.agg (kC 0 0 0 0 0 0),qa,undef,qa]) (fun _=>[(2,(bD 1 (nb ρ1 1) (cL (kC 0 0 0 0 0 0) 66)))]) (jE [[],[],[1],[]]) (fun _=>aF (aC (aP (aC (aC (aP (aC ?_)))))))
   exact mR (v:=(.tuple #[.agg (kC 0 0 0 0 0 0),vi (chE x (ps.getD j 0))])) (ps:=[1,1,1,1,1,1,1,1,1,1,1,1,1,1,1,1,1,1,1,1,1,1,1,1,1,1,1,1,1,1,1,1,1,1,1,1,1,1,1,1,1,1,1]) (fun _ hS=>⟨by rw [(dv_fail (aV hb1) hsx (oA (fZ ps)) hE hK hb3).1,(dv_fail (aV hb1) hsx (oA (fZ ps)) hE hK hb3).2];rfl,hS.bel⟩)
  rw [hb3]
  refine aG (aA (rS f62 2 [1,2,4,6] [1,1,0] (fun _=>[.agg (kY (chK x (ps.getD j 0))),undef]) (fun _=>[(1,(bD 0 (nb ρ1 0) (cL (kY (chK x (ps.getD j 0))) 66)))]) (jE [[2],[0]]) (fun _=>aJ (aA (rS f62 3 [1,2,4,6] [] (fun _=>[vn j,vn (j+1),vn (j+1)]) (fun _=>[]) (cR [[]]<|jW (fun ρ=>(((j:Nat):Int)+1)) (fun _=>(j+1)) (fun _=>(aW j 1 om))<|jE [[]]) (fun _=>?_))))))
  exact mN (j+1,chK x (ps.getD j 0)) (by show (nI ps).length-(j+1)<(nI ps).length-j;omega) (⟨om,chK_ok _ _ (get_all hp (by decide) j),(wU hsx (oA (fZ ps)) hE hK hb3).1,(wU hsx (oA (fZ ps)) hE hK hb3).2.1,(wU hsx (oA (fZ ps)) hE hK hb3).2.2⟩) []
 rw [hb2]
 refine bF (aN (aN (aT (aA (sS f62 3 [4,5] [0,1] (fun _=>[.agg (kY x),undef,vi 0]) (fun _=>[(1,(bD 1 (nb ρ1 1) (cL (kY x) 66)))]) (jE [[0],[1],[]]) (fun _=>aF ?_))))))
 exact mR (v:=(.tuple #[.agg (kY x),vi 0])) (fun _ hS=>⟨by rw [(dv_done (aV hb1) (oB (fZ ps) (yF hb2)) hE hK).1,(dv_done (aV hb1) (oB (fZ ps) (yF hb2)) hE hK).2]<;>rfl,hS.bel⟩)
theorem rdkeys_any (a:Option Addr) (c:Nat) (ts:List bW) (z:Int) (w0:World) (hf0:bM w0 a c ts):Calls prog 39 #[.slice a ts.length c,vi z] w0 (fun ε w'=>∃ α κ,ε=.returned (.tuple #[.slice α (gV ts z).length κ,.int .i64 (kZ ts z)])∧jG w0 w'∧dL (fun b=>b<w0.heap.size) (fun w=>Us w α κ (gV ts z)) w'):=by
 refine Calls.of_ok (n:=73) (F:=(fun w=>bM w a c ts∧True)) func39 rfl rfl rfl (by simp) (hf0.pers0.and cO) ?_
 have hlen:ts.length≤1000000:=hf0.max
 have ho:mP ts:=hf0.oks
 refine jJ f39 2 [0,1,4,5] [vz,vi 0] (aB (sS f39 3 [0,1,4,5,15] [] (fun _=>[.slice a ts.length c,.bool (xW ts),.bool (!(xW ts))]) (fun _=>[]) (cR [[]]<|cX (qC (fun _ _ w hG=>rdvalid_any a c ts w hG.fn.1))<|jE [[]]) (fun _=>oC (!(xW ts)) (fun hb1=>?_) (fun hb1=>?_))))
 ·rw [hb1]
  refine jJ f39 2 [0,1,4,5] [vz,vi 260] (aF (aC (mD [(0,(.slice a ts.length c)),(1,(vi z)),(4,vz),(5,(vi 260))] [] ?_)))
  exact mR (v:=(.tuple #[vz,vi 260])) (fun _ hS=>(by rw [(ky_bad (z:=z) (dF hb1)).1,(ky_bad (z:=z) (dF hb1)).2];exact ⟨none,0,rfl,hS.bel,dB (fun _=>Us.nil)⟩))
 rw [hb1]
 refine aG (aA (aB ?_))
 rcases Bool.eq_false_or_eq_true (decide (z<0)) with hb2 | hb2
 ·refine sS f39 6 [0,1,4,5,21] [] (fun _=>[vi z,vT,vT,undef,undef,vT]) (fun _=>[]) (cR [[]]<|cA (fun _=>vT) (fun _=>congrArg Value.bool hb2)<|jE [[],[],[],[]]) (fun _=>oY (jJ f39 2 [0,1,4,5] [vz,vi 5] (aF (aC (mD [(0,(.slice a ts.length c)),(1,(vi z)),(4,vz),(5,(vi 5))] [] ?_)))))
  exact mR (v:=(.tuple #[vz,vi 5])) (fun _ hS=>(by rw [(vC (aV hb1) (oA (yT hb2))).1,(vC (aV hb1) (oA (yT hb2))).2];exact ⟨none,0,rfl,hS.bel,dB (fun _=>Us.nil)⟩))
 refine sS f39 6 [0,1,4,5,21] [] (fun _=>let qa:Value:=.bool (decide (1000≤z));[vi z,vF,vF,vi z,qa,qa]) (fun _=>[]) (cR [[]]<|cA (fun _=>vF) (fun _=>congrArg Value.bool hb2)<|jE [[],[],[],[]]) (fun _=>oC (decide (1000≤z)) (fun hb3=>?_) (fun hb3=>?_))
 ·rw [hb3]
  refine jJ f39 2 [0,1,4,5] [vz,vi 5] (aF (aC (mD [(0,(.slice a ts.length c)),(1,(vi z)),(4,vz),(5,(vi 5))] [] ?_)))
  exact mR (v:=(.tuple #[vz,vi 5])) (fun _ hS=>(by rw [(vC (aV hb1) (oB (yF hb2) (yT hb3))).1,(vC (aV hb1) (oB (yF hb2) (yT hb3))).2];exact ⟨none,0,rfl,hS.bel,dB (fun _=>Us.nil)⟩))
 rw [hb3]
 have:=yF hb3
 refine aG (aA (jJ f39 1 [0,1,4,5,6] [vz] (aB (jJ f39 1 [0,1,4,5,6,7] [vi 0] (aI ?_)))))
 refine oL (σ:=Nat ⊕ (Nat × Nat × (List Nat) × (Array Value) × Nat)) (fun s=>match s with | Sum.inl i=>[(0,(.slice a ts.length c)),(1,(vi z)),(6,vz),(7,(vn i))] | Sum.inr ⟨i,q,N,_,κ⟩=>[(0,(.slice a ts.length c)),(1,(vi z)),(6,(vs q N.length κ)),(7,(vn i))]) (fun s=>match s with | Sum.inl _=>[] | Sum.inr ⟨_,q,_,C,_⟩=>[(q,(cL C 64))]) (fun s=>match s with | Sum.inl i=>ts.length-i | Sum.inr ⟨i,_,_,_,_⟩=>ts.length-i)
  (fun s=>match s with | Sum.inl i=>(i≤ts.length)∧(([]:List Nat)++xE z.toNat (aK (ts.drop i))=xE z.toNat (aK ts))∧(uU z.toNat (aK (ts.drop i))=uU z.toNat (aK ts))∧True | Sum.inr ⟨i,_,N,C,κ⟩=>(i≤ts.length)∧(N++xE z.toNat (aK (ts.drop i))=xE z.toNat (aK ts))∧(uU z.toNat (aK (ts.drop i))=uU z.toNat (aK ts))∧(kU.A C N κ)∧(∀ n∈N,n<M)) (Sum.inl 0) (⟨Nat.zero_le _,rfl,rfl,trivial⟩) [] ?_
 rintro (i | ⟨i,q,N,C,κ⟩)
 ·rintro ⟨hi,hN0,hE0,hnil0⟩
  refine aB (jJ f39 4 [0,1,6,7,25] [vn i,.slice a ts.length c,vn ts.length,.bool (decide (((i:Nat):Int)<((ts.length:Nat):Int)))] (oC (decide (((i:Nat):Int)<((ts.length:Nat):Int))) (fun hb4=>?_) (fun hb4=>?_)))
  ·rw [hb4]
   have:=yT hb4
   have:=ho.klen hf0 i
   refine aG (aA (aB (aI (jJ f39 1 [0,1,6,7,8] [vi 0] (aI ?_)))))
   refine oL (σ:=Nat ⊕ (Nat × Nat × (List Nat) × (Array Value) × Nat)) (fun s=>match s with | Sum.inl j=>[(0,(.slice a ts.length c)),(1,(vi z)),(6,vz),(7,(vn i)),(8,(vn j))] | Sum.inr ⟨j,q,N,_,κ⟩=>[(0,(.slice a ts.length c)),(1,(vi z)),(6,(vs q N.length κ)),(7,(vn i)),(8,(vn j))]) (fun s=>match s with | Sum.inl _=>[] | Sum.inr ⟨_,q,_,C,_⟩=>[(q,(cL C 64))]) (fun s=>match s with | Sum.inl j=>(gT ts i).ks.length-j | Sum.inr ⟨j,_,_,_,_⟩=>(gT ts i).ks.length-j)
    (fun s=>match s with | Sum.inl j=>(j≤(gT ts i).ks.length)∧(([]:List Nat)++xE z.toNat ((gT ts i).ks.drop j++aK (ts.drop (i+1)))=xE z.toNat (aK ts))∧(uU z.toNat ((gT ts i).ks.drop j++aK (ts.drop (i+1)))=uU z.toNat (aK ts))∧True | Sum.inr ⟨j,_,N,C,κ⟩=>(j≤(gT ts i).ks.length)∧(N++xE z.toNat ((gT ts i).ks.drop j++aK (ts.drop (i+1)))=xE z.toNat (aK ts))∧(uU z.toNat ((gT ts i).ks.drop j++aK (ts.drop (i+1)))=uU z.toNat (aK ts))∧(kU.A C N κ)∧(∀ n∈N,n<M)) (Sum.inl 0) (⟨Nat.zero_le _,kn_in (show i<ts.length from (oA (yF hb2))) hN0,ke_in (show i<ts.length from (oA (yF hb2))) hE0,trivial⟩) [] ?_
   rintro (j | ⟨j,q,N,C,κ⟩)
   ·rintro ⟨hj,hN,hE,hnil⟩
    refine aB (sS f39 8 [0,1,6,7,8,35] [] (fun _=>[vn j,.slice a ts.length c,vn i,.pointer (fK a (i*36)),.pointer (fK a (i*36+35)),.slice (gT ts i).ka (gT ts i).ks.length (gT ts i).kc,vn (gT ts i).ks.length,.bool (decide (((j:Nat):Int)<(((gT ts i).ks.length:Nat):Int)))]) (fun _=>[]) (cR [[],[],[]]<|cX (qF (fun _ _ _ hG=>bM.idx (k:=.i64) underlying24 sizeOf60 hG.fn.1 rfl (show ((i:Nat):Int)=((i:Nat):Int) from rfl) (show i<ts.length from (oA (yF hb2)))))<|cX (jF (fun _=>Instr.fieldAt 60 (.pointer (fK a (i*36))) 4) (fun _=>(.pointer (fK a (i*36+35)))) (fun _ _ _ hG=>uH (o:=35) (k:=i*36) underlying60 rfl rfl rfl sizeOf58 (hG.fn.1.pos (show i<ts.length from (oA (yF hb2)))).1 (hG.fn.1.pos (show i<ts.length from (oA (yF hb2)))).2) (fun _ _ _ _=>cO))<|cX (qF (fun _ _ _ hG=>bM.ld (v:=(.slice (gT ts i).ka (gT ts i).ks.length (gT ts i).kc)) (i:=i) (j:=35) isAgg58 hG.fn.1 (show i<ts.length from (oA (yF hb2))) (by decide) (by kernel_rfl)))<|jE [[],[]]) (fun _=>oC (decide (((j:Nat):Int)<(((gT ts i).ks.length:Nat):Int))) (fun hb5=>?_) (fun hb5=>?_)))
    ·rw [hb5]
     have:=yT hb5
     refine aG (aA (aB (aI (sS f39 10 [0,1,6,7,8,9] [] (fun ρ=>[.slice a ts.length c,vn i,.pointer (fK a (i*36)),.pointer (fK a (i*36+35)),.slice (gT ts i).ka (gT ts i).ks.length (gT ts i).kc,vn j,.pointer (fK (gT ts i).ka (j*45)),.agg (dO.row (gK (gT ts i).ks j)),pt (nb ρ 8),undef]) (fun ρ=>[(8,(nw ρ 8 (cL (kM 0 0 0 0 0 0 vz vF) 69))),(9,(bD 64 (nb ρ 8) (cL (dO.row (gK (gT ts i).ks j)) 69)))]) (cR [[],[]]<|cX (qF (fun _ _ _ hG=>bM.idx (k:=.i64) underlying24 sizeOf60 hG.fn.1 rfl (show ((i:Nat):Int)=((i:Nat):Int) from rfl) (show i<ts.length from (oA (yF hb2)))))<|cX (jF (fun _=>Instr.fieldAt 60 (.pointer (fK a (i*36))) 4) (fun _=>(.pointer (fK a (i*36+35)))) (fun _ _ _ hG=>uH (o:=35) (k:=i*36) underlying60 rfl rfl rfl sizeOf58 (hG.fn.1.pos (show i<ts.length from (oA (yF hb2)))).1 (hG.fn.1.pos (show i<ts.length from (oA (yF hb2)))).2) (fun _ _ _ _=>cO))<|cX (qF (fun _ _ _ hG=>bM.ld (v:=(.slice (gT ts i).ka (gT ts i).ks.length (gT ts i).kc)) (i:=i) (j:=35) isAgg58 hG.fn.1 (show i<ts.length from (oA (yF hb2))) (by decide) (by kernel_rfl)))<|cR [[]]<|cX (qF (fun _ _ _ hG=>oG.idx (k:=.i64) underlying58 sizeOf69 (hG.fn.1.sub _ (xAE (show i<ts.length from (oA (yF hb2))))) rfl (show ((j:Nat):Int)=((j:Nat):Int) from rfl) (show j<(gT ts i).ks.length from (oA (yF hb2)))))<|cX (qF (fun _ _ _ hG=>oG.ldA (i:=j) isAgg69 sizeOf69 (hG.fn.1.sub _ (xAE (show i<ts.length from (oA (yF hb2))))) (show j<(gT ts i).ks.length from (oA (yF hb2)))))<|jE [[],[64]]) (fun ρ13=>okJ2 (σ:=(Option Addr) × Nat × (List Nat)) (fun ⟨pa,pc,pq⟩=>[(0,(.slice a ts.length c)),(1,(vi z)),(6,vz),(7,(vn i)),(8,(vn j)),(9,(pt (nb ρ13 8))),(10,(.slice pa (nI pq).length pc))]) (fun ⟨_,_,_⟩=>[(nb ρ13 8,(cL (dO.row (gK (gT ts i).ks j)) 69))]) (fun ⟨pa,pc,pq⟩=>(fun w=>bM w a c ts∧Is w .u32 pa pc (nI pq)∧True)) (fun ⟨_,_,pq⟩=>((gK (gT ts i).ks j).ix z.toNat=pq)∧(∀ x∈pq,x<4294967296)) ?_ ?_)))))
     ·rintro ⟨pa,pc,pq⟩ ⟨hq,hq32⟩
      refine sS f39 10 [0,1,6,7,8,11,12] [0,1] (fun ρ=>let qa:=vi (nM (gK (gT ts i).ks j).k pq);let qb:Value:=.agg (kY (iQ (gK (gT ts i).ks j).k pq));[pt (nb ρ13 8),.agg (kY (gK (gT ts i).ks j).k),.slice pa (nI pq).length pc,.tuple #[qb,qa],.tuple #[qb,qa],qb,qa,pt (nb ρ 7),undef,qa]) (fun ρ=>[(7,(nw ρ 7 (cL (kC 0 0 0 0 0 0) 66))),(8,(bD 57 (nb ρ 7) (cL (kY (iQ (gK (gT ts i).ks j).k pq)) 66)))]) (cR [[],[0],[]]<|cX (qC (fun _ _ w hG=>vJ (gK (gT ts i).ks j).k pa pc pq (ho.gK i j).k hq32 w hG.fn.2.1))<|jE [[],[],[],[],[57],[]]) (fun ρ14=>aB (jJ f39 2 [0,1,6,7,8,11,12,65] [vi (nM (gK (gT ts i).ks j).k pq),.bool ((nM (gK (gT ts i).ks j).k pq) != 0)] (oC ((nM (gK (gT ts i).ks j).k pq) != 0) (fun hb6=>?_) (fun hb6=>?_))))
      ·rw [hb6]
       refine jJ f39 3 [0,1,4,5,6,7,8,11] (let qa:=vi (nM (gK (gT ts i).ks j).k pq);[qa,vz,qa]) (aF (aC (aP (aC (aC (aP (aP (aC (aC (aP (aC (mD [(0,(.slice a ts.length c)),(1,(vi z)),(4,vz),(5,(vi (nM (gK (gT ts i).ks j).k pq))),(6,vz),(7,(vn i)),(8,(vn j)),(11,(pt (nb ρ14 7)))] [(nb ρ14 7,(cL (kY (iQ (gK (gT ts i).ks j).k pq)) 66))] ?_))))))))))))
       exact mR (v:=(.tuple #[vz,vi (nM (gK (gT ts i).ks j).k pq)])) (fun _ hS=>(by rw [(pI (aV hb1) hb2 hb3 (l7 (show j<(gT ts i).ks.length from (oA (yF hb2))) hq hb6 hE) hb6).1,(pI (aV hb1) hb2 hb3 (l7 (show j<(gT ts i).ks.length from (oA (yF hb2))) hq hb6 hE) hb6).2];exact ⟨none,0,rfl,hS.bel,dB (fun _=>Us.nil)⟩))
      rw [hb6]
      refine aG (aA (rS f39 6 [0,1,6,7,8] [0,0,1] (fun ρ=>let qa:=vs (nb ρ 4) ([(iQ (gK (gT ts i).ks j).k pq).p]).length (([(iQ (gK (gT ts i).ks j).k pq).p]).length+aZ ρ 4);[vz,jp (nb ρ14 7) 4,U (iQ (gK (gT ts i).ks j).k pq).p,vs (nb ρ 3) 1 1,qa,qa]) (fun ρ=>[(3,(nw ρ 3 (cL (cU (iQ (gK (gT ts i).ks j).k pq).p) 64))),(4,(nw ρ 4 (cL ((kU.r ([(iQ (gK (gT ts i).ks j).k pq).p])).toArray++Builtin.zeroCells (Value.cells (U 0)) (aZ ρ 4)) 64)))]) (cR [[],[],[0],[]]<|cX (qN (fun _ ζ=>(vs (ζ.headD 0) ([(iQ (gK (gT ts i).ks j).k pq).p]).length (([(iQ (gK (gT ts i).ks j).k pq).p]).length+ζ.tail.headD 0))) (fun _ ζ=>(cL ((kU.r ([(iQ (gK (gT ts i).ks j).k pq).p])).toArray++Builtin.zeroCells (Value.cells (U 0)) (ζ.tail.headD 0)) 64)) (fun ρ _ _ hG=>xAP (K:=kU) (ty:=80) (us:=[(iQ (gK (gT ts i).ks j).k pq).p]) underlying80 (dA (sz:=4) (b:=32) (z:=(U 0)) (by kernel_rfl) rfl) (src_u1 underlying80 (hG.kn (g:=nb ρ 3) (o:=(cL (cU (iQ (gK (gT ts i).ks j).k pq).p) 64)) 25)) (Nat.le_of_ble_eq_true rfl) (Nat.le_of_ble_eq_true rfl) (by decide)))<|jE [[]]) (fun ρ17=>aJ (aA (rS f39 3 [0,1,6,7,8] [] (fun _=>[vn j,vn (j+1),vn (j+1)]) (fun _=>[]) (cR [[]]<|jW (fun ρ=>(((j:Nat):Int)+1)) (fun _=>(j+1)) (fun _=>(aW j 1 (oA (yF hb2))))<|jE [[]]) (fun _=>nD (fun w=>bM w a c ts∧True) (fun w hF=>⟨hF.1,trivial⟩) ?_))))))
      exact mN (Sum.inr (j+1,nb ρ17 4,[(iQ (gK (gT ts i).ks j).k pq).p],(kU.r ([(iQ (gK (gT ts i).ks j).k pq).p])).toArray++Builtin.zeroCells (Value.cells (U 0)) (aZ ρ17 4),([(iQ (gK (gT ts i).ks j).k pq).p]).length+aZ ρ17 4)) (by show (gT ts i).ks.length-(j+1)<(gT ts i).ks.length-j;have:=yF hb2;omega) (⟨(oA (yF hb2)),wV (show j<(gT ts i).ks.length from (oA (yF hb2))) hq hN,xJ (show j<(gT ts i).ks.length from (oA (yF hb2))) hq hb6 hE,RowK.A.fresh (K:=kU) (z:=(U 0)) rfl ([(iQ (gK (gT ts i).ks j).k pq).p]) (aZ ρ17 4),(fun n hn=>by rw [List.mem_singleton.1 hn];exact (yR (ho.gK i j).k hq32).p)⟩) []
     intro J1
     refine iZ f39 5 [0,1,6,7,8,9,10] [] (fun ρ=>let qa:=vs (nb ρ 3) (nI (([]:List Nat)++(gK (gT ts i).ks j).ps)).length (aZ ρ 3);[vs (nb ρ 0) 0 0,jp (nb ρ13 8) 43,.slice (gK (gT ts i).ks j).pa (nI (gK (gT ts i).ks j).ps).length (gK (gT ts i).ks j).pc,qa,qa]) (fun ρ=>[(0,(nw ρ 0 (cL #[] 55))),(3,(bD 1 (nb ρ 3) (cL (oc ρ 3) 55)))]) (fun ρ=>[(3,fun w=>kI.A (oc ρ 3) (([]:List Nat)++(gK (gT ts i).ks j).ps) (aZ ρ 3))]) (fun _=>(fun w=>bM w a c ts∧True)) (fun ρ=>kI.A (oc ρ 3) (([]:List Nat)++(gK (gT ts i).ks j).ps) (aZ ρ 3)) (fun _ _ hF hf=>⟨hF,hf 3⟩) (cR [[],[],[0]]<|cX (qM 1 (fun ρ _ _ hG hg=>lT (ty:=67) (g:=nb ρ 0) (ts:=([]:List Nat)) (us:=(gK (gT ts i).ks j).ps) underlying67 (dA (sz:=1) (b:=4) (z:=(.int .u32 0)) (by kernel_rfl) rfl) RowK.A.empty (src_is underlying67 ((hG.fn.1.sub _ (xAE (show i<ts.length from (oA (yF hb2))))).sub _ (nU (show j<(gT ts i).ks.length from (oA (yF hb2)))))) (by have:=jC (aV hb1) (show i<ts.length from (oA (yF hb2))) (show j<(gT ts i).ks.length from (oA (yF hb2)));simp only [List.length_nil];omega) (by decide) hg))<|jE [[]]) (fun ρ19 ap19_3=>aB (jM f39 2 [0,1,6,7,8,9,10,51] [] [jp (nb ρ13 8) 44,.bool (gK (gT ts i).ks j).wd] [[],[0]] (oC (gK (gT ts i).ks j).wd (fun hb7=>?_) (fun hb7=>?_))))
     ·rw [hb7]
      refine rSf f39 6 [0,1,6,7,8,9,10] [1,1,0] (fun ρ=>let qa:=vs (nb ρ 4) (nI ((([]:List Nat)++(gK (gT ts i).ks j).ps)++([z.toNat]))).length (aZ ρ 4);[vs (nb ρ19 3) (nI (([]:List Nat)++(gK (gT ts i).ks j).ps)).length (aZ ρ19 3),vi z,vu z.toNat,vs (nb ρ 3) 1 1,qa,qa]) (fun ρ=>[(3,(nw ρ 3 (cL #[vu z.toNat] 55))),(4,(bD 1 (nb ρ 4) (cL (oc ρ 4) 55)))]) (fun ρ=>[(4,fun w=>kI.A (oc ρ 4) ((([]:List Nat)++(gK (gT ts i).ks j).ps)++([z.toNat])) (aZ ρ 4))]) (fun _=>(fun w=>bM w a c ts∧True)) (fun ρ=>kI.A (oc ρ 4) ((([]:List Nat)++(gK (gT ts i).ks j).ps)++([z.toNat])) (aZ ρ 4)) (fun _ _ hF hf=>⟨hF,hf 4⟩) (cR [[],[]]<|cA (fun _=>(vu z.toNat)) (fun _=>jN (u32Z hb2 hb3))<|cR [[]]<|cX (qM 1 (fun ρ _ _ hG hg=>lT (ty:=67) (g:=nb ρ19 3) (ts:=([]:List Nat)++(gK (gT ts i).ks j).ps) (us:=[z.toNat]) underlying67 (dA (sz:=1) (b:=4) (z:=(.int .u32 0)) (by kernel_rfl) rfl) ap19_3 (tJ underlying67 (hG.kn (g:=nb ρ 3) (o:=(cL #[vu z.toNat] 55)) 26)) (by have:=jC (aV hb1) (show i<ts.length from (oA (yF hb2))) (show j<(gT ts i).ks.length from (oA (yF hb2)));simp only [List.length_append,List.length_cons,List.length_nil];omega) (by decide) hg))<|jE [[]]) (fun ρ21 ap21_4=>aA (lK [(0,(.slice a ts.length c)),(1,(vi z)),(6,vz),(7,(vn i)),(8,(vn j)),(9,(pt (nb ρ13 8))),(10,(vs (nb ρ21 4) (nI ((([]:List Nat)++(gK (gT ts i).ks j).ps)++([z.toNat]))).length (aZ ρ21 4)))] [(nb ρ13 8,(cL (dO.row (gK (gT ts i).ks j)) 69)),(nb ρ21 4,(cL (oc ρ21 4) 55))] ?_))
      exact okE J1 (some ⟨nb ρ21 4,0,none⟩,aZ ρ21 4,(([]:List Nat)++(gK (gT ts i).ks j).ps)++[z.toNat]) (⟨ix_d hb7,(fun x hx=>(List.mem_append.1 hx).elim ((ho.gK i j).ps x) (fun hx=>by rw [List.mem_singleton.1 hx];exact (z32n hb2 hb3)))⟩) (fun w hS=>(hS.frozI (e:=55) (fr:=(0,0)) 1 ap21_4 (by have:=jC (aV hb1) (show i<ts.length from (oA (yF hb2))) (show j<(gT ts i).ks.length from (oA (yF hb2)));simp only [List.length_append,List.length_cons,List.length_nil];omega) []).weaken (fun w hF=>⟨hF.2.1,hF.1,trivial⟩))
     rw [hb7]
     refine aG (aA (lK [(0,(.slice a ts.length c)),(1,(vi z)),(6,vz),(7,(vn i)),(8,(vn j)),(9,(pt (nb ρ13 8))),(10,(vs (nb ρ19 3) (nI (([]:List Nat)++(gK (gT ts i).ks j).ps)).length (aZ ρ19 3))),(51,vF)] [(nb ρ13 8,(cL (dO.row (gK (gT ts i).ks j)) 69)),(nb ρ19 3,(cL (oc ρ19 3) 55))] ?_))
     exact okE J1 (some ⟨nb ρ19 3,0,none⟩,aZ ρ19 3,([]:List Nat)++(gK (gT ts i).ks j).ps) (⟨ix_c hb7,(ho.gK i j).ps⟩) (fun w hS=>(hS.frozI (e:=55) (fr:=(0,0)) 1 ap19_3 (by have:=jC (aV hb1) (show i<ts.length from (oA (yF hb2))) (show j<(gT ts i).ks.length from (oA (yF hb2)));simp only [List.length_append,List.length_nil];omega) []).weaken (fun w hF=>⟨hF.2.1,hF.1,trivial⟩))
    rw [hb5]
    have:=yF hb5
    refine bF (aN (aN (aT (aJ (aA (rS f39 3 [0,1,6,7] [] (fun _=>[vn i,vn (i+1),vn (i+1)]) (fun _=>[]) (cR [[]]<|jW (fun ρ=>(((i:Nat):Int)+1)) (fun _=>(i+1)) (fun _=>(aW i 1 (oA (yF hb2))))<|jE [[]]) (fun _=>?_)))))))
    exact mN (Sum.inl (i+1)) (by show ts.length-(i+1)<ts.length-i;have:=yF hb2;omega) (⟨(oA (yF hb2)),kn_out (oA (yF hb2)) hN,ke_out (oA (yF hb2)) hE,trivial⟩) []
   rintro ⟨hj,hN,hE,hA,hM⟩
   refine aB (sS f39 8 [0,1,6,7,8,35] [] (fun _=>[vn j,.slice a ts.length c,vn i,.pointer (fK a (i*36)),.pointer (fK a (i*36+35)),.slice (gT ts i).ka (gT ts i).ks.length (gT ts i).kc,vn (gT ts i).ks.length,.bool (decide (((j:Nat):Int)<(((gT ts i).ks.length:Nat):Int)))]) (fun _=>[]) (cR [[],[],[]]<|cX (qF (fun _ _ _ hG=>bM.idx (k:=.i64) underlying24 sizeOf60 hG.fn.1 rfl (show ((i:Nat):Int)=((i:Nat):Int) from rfl) (show i<ts.length from (oA (yF hb2)))))<|cX (jF (fun _=>Instr.fieldAt 60 (.pointer (fK a (i*36))) 4) (fun _=>(.pointer (fK a (i*36+35)))) (fun _ _ _ hG=>uH (o:=35) (k:=i*36) underlying60 rfl rfl rfl sizeOf58 (hG.fn.1.pos (show i<ts.length from (oA (yF hb2)))).1 (hG.fn.1.pos (show i<ts.length from (oA (yF hb2)))).2) (fun _ _ _ _=>cO))<|cX (qF (fun _ _ _ hG=>bM.ld (v:=(.slice (gT ts i).ka (gT ts i).ks.length (gT ts i).kc)) (i:=i) (j:=35) isAgg58 hG.fn.1 (show i<ts.length from (oA (yF hb2))) (by decide) (by kernel_rfl)))<|jE [[],[]]) (fun _=>oC (decide (((j:Nat):Int)<(((gT ts i).ks.length:Nat):Int))) (fun hb8=>?_) (fun hb8=>?_)))
   ·rw [hb8]
    have:=yT hb8
    refine aG (aA (aB (aI (sS f39 10 [0,1,6,7,8,9] [] (fun ρ=>[.slice a ts.length c,vn i,.pointer (fK a (i*36)),.pointer (fK a (i*36+35)),.slice (gT ts i).ka (gT ts i).ks.length (gT ts i).kc,vn j,.pointer (fK (gT ts i).ka (j*45)),.agg (dO.row (gK (gT ts i).ks j)),pt (nb ρ 8),undef]) (fun ρ=>[(8,(nw ρ 8 (cL (kM 0 0 0 0 0 0 vz vF) 69))),(9,(bD 65 (nb ρ 8) (cL (dO.row (gK (gT ts i).ks j)) 69)))]) (cR [[],[]]<|cX (qF (fun _ _ _ hG=>bM.idx (k:=.i64) underlying24 sizeOf60 hG.fn.1 rfl (show ((i:Nat):Int)=((i:Nat):Int) from rfl) (show i<ts.length from (oA (yF hb2)))))<|cX (jF (fun _=>Instr.fieldAt 60 (.pointer (fK a (i*36))) 4) (fun _=>(.pointer (fK a (i*36+35)))) (fun _ _ _ hG=>uH (o:=35) (k:=i*36) underlying60 rfl rfl rfl sizeOf58 (hG.fn.1.pos (show i<ts.length from (oA (yF hb2)))).1 (hG.fn.1.pos (show i<ts.length from (oA (yF hb2)))).2) (fun _ _ _ _=>cO))<|cX (qF (fun _ _ _ hG=>bM.ld (v:=(.slice (gT ts i).ka (gT ts i).ks.length (gT ts i).kc)) (i:=i) (j:=35) isAgg58 hG.fn.1 (show i<ts.length from (oA (yF hb2))) (by decide) (by kernel_rfl)))<|cR [[]]<|cX (qF (fun _ _ _ hG=>oG.idx (k:=.i64) underlying58 sizeOf69 (hG.fn.1.sub _ (xAE (show i<ts.length from (oA (yF hb2))))) rfl (show ((j:Nat):Int)=((j:Nat):Int) from rfl) (show j<(gT ts i).ks.length from (oA (yF hb2)))))<|cX (qF (fun _ _ _ hG=>oG.ldA (i:=j) isAgg69 sizeOf69 (hG.fn.1.sub _ (xAE (show i<ts.length from (oA (yF hb2))))) (show j<(gT ts i).ks.length from (oA (yF hb2)))))<|jE [[],[65]]) (fun ρ24=>okJ2 (σ:=(Option Addr) × Nat × (List Nat)) (fun ⟨pa,pc,pq⟩=>[(0,(.slice a ts.length c)),(1,(vi z)),(6,(vs q N.length κ)),(7,(vn i)),(8,(vn j)),(9,(pt (nb ρ24 8))),(10,(.slice pa (nI pq).length pc))]) (fun ⟨_,_,_⟩=>[(q,(cL C 64)),(nb ρ24 8,(cL (dO.row (gK (gT ts i).ks j)) 69))]) (fun ⟨pa,pc,pq⟩=>(fun w=>bM w a c ts∧Is w .u32 pa pc (nI pq)∧True)) (fun ⟨_,_,pq⟩=>((gK (gT ts i).ks j).ix z.toNat=pq)∧(∀ x∈pq,x<4294967296)) ?_ ?_)))))
    ·rintro ⟨pa,pc,pq⟩ ⟨hq,hq32⟩
     refine sS f39 10 [0,1,6,7,8,11,12] [1,0,1] (fun ρ=>let qa:=vi (nM (gK (gT ts i).ks j).k pq);let qb:Value:=.agg (kY (iQ (gK (gT ts i).ks j).k pq));[pt (nb ρ24 8),.agg (kY (gK (gT ts i).ks j).k),.slice pa (nI pq).length pc,.tuple #[qb,qa],.tuple #[qb,qa],qb,qa,pt (nb ρ 7),undef,qa]) (fun ρ=>[(7,(nw ρ 7 (cL (kC 0 0 0 0 0 0) 66))),(8,(bD 58 (nb ρ 7) (cL (kY (iQ (gK (gT ts i).ks j).k pq)) 66)))]) (cR [[],[1],[]]<|cX (qC (fun _ _ w hG=>vJ (gK (gT ts i).ks j).k pa pc pq (ho.gK i j).k hq32 w hG.fn.2.1))<|jE [[],[],[],[],[58],[]]) (fun ρ25=>aB (jJ f39 2 [0,1,6,7,8,11,12,65] [vi (nM (gK (gT ts i).ks j).k pq),.bool ((nM (gK (gT ts i).ks j).k pq) != 0)] (oC ((nM (gK (gT ts i).ks j).k pq) != 0) (fun hb9=>?_) (fun hb9=>?_))))
     ·rw [hb9]
      refine jJ f39 3 [0,1,4,5,6,7,8,11] (let qa:=vi (nM (gK (gT ts i).ks j).k pq);[qa,vz,qa]) (aF (aC (aP (aC (aC (aP (aP (aC (aC (aP (aC (mD [(0,(.slice a ts.length c)),(1,(vi z)),(4,vz),(5,(vi (nM (gK (gT ts i).ks j).k pq))),(6,(vs q N.length κ)),(7,(vn i)),(8,(vn j)),(11,(pt (nb ρ25 7)))] [(q,(cL C 64)),(nb ρ25 7,(cL (kY (iQ (gK (gT ts i).ks j).k pq)) 66))] ?_))))))))))))
      exact mR (v:=(.tuple #[vz,vi (nM (gK (gT ts i).ks j).k pq)])) (fun _ hS=>(by rw [(pI (aV hb1) hb2 hb3 (l7 (show j<(gT ts i).ks.length from (oA (yF hb2))) hq hb9 hE) hb9).1,(pI (aV hb1) hb2 hb3 (l7 (show j<(gT ts i).ks.length from (oA (yF hb2))) hq hb9 hE) hb9).2];exact ⟨none,0,rfl,hS.bel,dB (fun _=>Us.nil)⟩))
     rw [hb9]
     refine aG (aA (rSf f39 6 [0,1,6,7,8] [1,0,0] (fun ρ=>let qa:=vs (nb ρ 4) (N++([(iQ (gK (gT ts i).ks j).k pq).p])).length (aZ ρ 4);[vs q N.length κ,jp (nb ρ25 7) 4,U (iQ (gK (gT ts i).ks j).k pq).p,vs (nb ρ 3) 1 1,qa,qa]) (fun ρ=>[(3,(nw ρ 3 (cL (cU (iQ (gK (gT ts i).ks j).k pq).p) 64))),(4,(bD 0 (nb ρ 4) (cL (oc ρ 4) 64)))]) (fun ρ=>[(4,fun w=>kU.A (oc ρ 4) (N++([(iQ (gK (gT ts i).ks j).k pq).p])) (aZ ρ 4))]) (fun _=>(fun w=>bM w a c ts∧Is w .u32 pa pc (nI pq)∧True)) (fun ρ=>kU.A (oc ρ 4) (N++([(iQ (gK (gT ts i).ks j).k pq).p])) (aZ ρ 4)) (fun _ _ hF hf=>⟨hF,hf 4⟩) (cR [[],[],[1],[]]<|cX (qM 0 (fun ρ _ _ hG hg=>wB (K:=kU) (ty:=80) (g:=q) (ts:=N) (us:=[(iQ (gK (gT ts i).ks j).k pq).p]) underlying80 (dA (sz:=4) (b:=32) (z:=(U 0)) (by kernel_rfl) rfl) hA (src_u1 underlying80 (hG.kn (g:=nb ρ 3) (o:=(cL (cU (iQ (gK (gT ts i).ks j).k pq).p) 64)) 26)) (by have:=kn_len (aV hb1) hN;have:=zN (R:=aK (ts.drop (i+1))) (show j<(gT ts i).ks.length from (oA (yF hb2)));simp only [List.length_cons,List.length_nil];omega) (by decide) hg))<|jE [[]]) (fun ρ28 ap28_4=>aJ (aA (rS f39 3 [0,1,6,7,8] [] (fun _=>[vn j,vn (j+1),vn (j+1)]) (fun _=>[]) (cR [[]]<|jW (fun ρ=>(((j:Nat):Int)+1)) (fun _=>(j+1)) (fun _=>(aW j 1 (oA (yF hb2))))<|jE [[]]) (fun _=>nD (fun w=>bM w a c ts∧True) (fun w hF=>⟨hF.1,trivial⟩) ?_))))))
     exact mN (Sum.inr (j+1,nb ρ28 4,N++([(iQ (gK (gT ts i).ks j).k pq).p]),oc ρ28 4,aZ ρ28 4)) (by show (gT ts i).ks.length-(j+1)<(gT ts i).ks.length-j;have:=yF hb2;omega) (⟨(oA (yF hb2)),wV (show j<(gT ts i).ks.length from (oA (yF hb2))) hq hN,xJ (show j<(gT ts i).ks.length from (oA (yF hb2))) hq hb9 hE,ap28_4,(fun n hn=>(List.mem_append.1 hn).elim (hM n) (fun hn=>by rw [List.mem_singleton.1 hn];exact (yR (ho.gK i j).k hq32).p))⟩) []
    intro J2
    refine iZ f39 5 [0,1,6,7,8,9,10] [] (fun ρ=>let qa:=vs (nb ρ 3) (nI (([]:List Nat)++(gK (gT ts i).ks j).ps)).length (aZ ρ 3);[vs (nb ρ 0) 0 0,jp (nb ρ24 8) 43,.slice (gK (gT ts i).ks j).pa (nI (gK (gT ts i).ks j).ps).length (gK (gT ts i).ks j).pc,qa,qa]) (fun ρ=>[(0,(nw ρ 0 (cL #[] 55))),(3,(bD 2 (nb ρ 3) (cL (oc ρ 3) 55)))]) (fun ρ=>[(3,fun w=>kI.A (oc ρ 3) (([]:List Nat)++(gK (gT ts i).ks j).ps) (aZ ρ 3))]) (fun _=>(fun w=>bM w a c ts∧True)) (fun ρ=>kI.A (oc ρ 3) (([]:List Nat)++(gK (gT ts i).ks j).ps) (aZ ρ 3)) (fun _ _ hF hf=>⟨hF,hf 3⟩) (cR [[],[],[1]]<|cX (qM 2 (fun ρ _ _ hG hg=>lT (ty:=67) (g:=nb ρ 0) (ts:=([]:List Nat)) (us:=(gK (gT ts i).ks j).ps) underlying67 (dA (sz:=1) (b:=4) (z:=(.int .u32 0)) (by kernel_rfl) rfl) RowK.A.empty (src_is underlying67 ((hG.fn.1.sub _ (xAE (show i<ts.length from (oA (yF hb2))))).sub _ (nU (show j<(gT ts i).ks.length from (oA (yF hb2)))))) (by have:=jC (aV hb1) (show i<ts.length from (oA (yF hb2))) (show j<(gT ts i).ks.length from (oA (yF hb2)));simp only [List.length_nil];omega) (by decide) hg))<|jE [[]]) (fun ρ30 ap30_3=>aB (jM f39 2 [0,1,6,7,8,9,10,51] [] [jp (nb ρ24 8) 44,.bool (gK (gT ts i).ks j).wd] [[],[1]] (oC (gK (gT ts i).ks j).wd (fun hb10=>?_) (fun hb10=>?_))))
    ·rw [hb10]
     refine rSf f39 6 [0,1,6,7,8,9,10] [1,1,1,0] (fun ρ=>let qa:=vs (nb ρ 4) (nI ((([]:List Nat)++(gK (gT ts i).ks j).ps)++([z.toNat]))).length (aZ ρ 4);[vs (nb ρ30 3) (nI (([]:List Nat)++(gK (gT ts i).ks j).ps)).length (aZ ρ30 3),vi z,vu z.toNat,vs (nb ρ 3) 1 1,qa,qa]) (fun ρ=>[(3,(nw ρ 3 (cL #[vu z.toNat] 55))),(4,(bD 2 (nb ρ 4) (cL (oc ρ 4) 55)))]) (fun ρ=>[(4,fun w=>kI.A (oc ρ 4) ((([]:List Nat)++(gK (gT ts i).ks j).ps)++([z.toNat])) (aZ ρ 4))]) (fun _=>(fun w=>bM w a c ts∧True)) (fun ρ=>kI.A (oc ρ 4) ((([]:List Nat)++(gK (gT ts i).ks j).ps)++([z.toNat])) (aZ ρ 4)) (fun _ _ hF hf=>⟨hF,hf 4⟩) (cR [[],[]]<|cA (fun _=>(vu z.toNat)) (fun _=>jN (u32Z hb2 hb3))<|cR [[]]<|cX (qM 2 (fun ρ _ _ hG hg=>lT (ty:=67) (g:=nb ρ30 3) (ts:=([]:List Nat)++(gK (gT ts i).ks j).ps) (us:=[z.toNat]) underlying67 (dA (sz:=1) (b:=4) (z:=(.int .u32 0)) (by kernel_rfl) rfl) ap30_3 (tJ underlying67 (hG.kn (g:=nb ρ 3) (o:=(cL #[vu z.toNat] 55)) 27)) (by have:=jC (aV hb1) (show i<ts.length from (oA (yF hb2))) (show j<(gT ts i).ks.length from (oA (yF hb2)));simp only [List.length_append,List.length_cons,List.length_nil];omega) (by decide) hg))<|jE [[]]) (fun ρ32 ap32_4=>aA (lK [(0,(.slice a ts.length c)),(1,(vi z)),(6,(vs q N.length κ)),(7,(vn i)),(8,(vn j)),(9,(pt (nb ρ24 8))),(10,(vs (nb ρ32 4) (nI ((([]:List Nat)++(gK (gT ts i).ks j).ps)++([z.toNat]))).length (aZ ρ32 4)))] [(q,(cL C 64)),(nb ρ24 8,(cL (dO.row (gK (gT ts i).ks j)) 69)),(nb ρ32 4,(cL (oc ρ32 4) 55))] ?_))
     exact okE J2 (some ⟨nb ρ32 4,0,none⟩,aZ ρ32 4,(([]:List Nat)++(gK (gT ts i).ks j).ps)++[z.toNat]) (⟨ix_d hb10,(fun x hx=>(List.mem_append.1 hx).elim ((ho.gK i j).ps x) (fun hx=>by rw [List.mem_singleton.1 hx];exact (z32n hb2 hb3)))⟩) (fun w hS=>(hS.frozI (e:=55) (fr:=(0,0)) 2 ap32_4 (by have:=jC (aV hb1) (show i<ts.length from (oA (yF hb2))) (show j<(gT ts i).ks.length from (oA (yF hb2)));simp only [List.length_append,List.length_cons,List.length_nil];omega) []).weaken (fun w hF=>⟨hF.2.1,hF.1,trivial⟩))
    rw [hb10]
    refine aG (aA (lK [(0,(.slice a ts.length c)),(1,(vi z)),(6,(vs q N.length κ)),(7,(vn i)),(8,(vn j)),(9,(pt (nb ρ24 8))),(10,(vs (nb ρ30 3) (nI (([]:List Nat)++(gK (gT ts i).ks j).ps)).length (aZ ρ30 3))),(51,vF)] [(q,(cL C 64)),(nb ρ24 8,(cL (dO.row (gK (gT ts i).ks j)) 69)),(nb ρ30 3,(cL (oc ρ30 3) 55))] ?_))
    exact okE J2 (some ⟨nb ρ30 3,0,none⟩,aZ ρ30 3,([]:List Nat)++(gK (gT ts i).ks j).ps) (⟨ix_c hb10,(ho.gK i j).ps⟩) (fun w hS=>(hS.frozI (e:=55) (fr:=(0,0)) 2 ap30_3 (by have:=jC (aV hb1) (show i<ts.length from (oA (yF hb2))) (show j<(gT ts i).ks.length from (oA (yF hb2)));simp only [List.length_append,List.length_nil];omega) []).weaken (fun w hF=>⟨hF.2.1,hF.1,trivial⟩))
   rw [hb8]
   have:=yF hb8
   refine bF (aN (aN (aT (aJ (aA (rS f39 3 [0,1,6,7] [] (fun _=>[vn i,vn (i+1),vn (i+1)]) (fun _=>[]) (cR [[]]<|jW (fun ρ=>(((i:Nat):Int)+1)) (fun _=>(i+1)) (fun _=>(aW i 1 (oA (yF hb2))))<|jE [[]]) (fun _=>?_)))))))
   exact mN (Sum.inr (i+1,q,N,C,κ)) (by show ts.length-(i+1)<ts.length-i;have:=yF hb2;omega) (⟨(oA (yF hb2)),kn_out (oA (yF hb2)) hN,ke_out (oA (yF hb2)) hE,hA,hM⟩) []
  rw [hb4]
  have:=ho.klen hf0 i
  refine bF (aN (aN (aT (aA (jJ f39 3 [4,5] [vz,vz,vi 0] (aF (mD [(4,vz),(5,(vi 0))] [] ?_)))))))
  exact mR (v:=(.tuple #[vz,vi 0])) (fun _ hS=>(by rw [(ky_ok (aV hb1) hb2 hb3 (oB (yF hb2) (yF hb4)) hE0 hN0).1,(ky_ok (aV hb1) hb2 hb3 (oB (yF hb2) (yF hb4)) hE0 hN0).2];exact ⟨none,0,rfl,hS.bel,dB (fun _=>Us.nil)⟩))
 rintro ⟨hi,hN0,hE0,hA,hM⟩
 refine aB (jJ f39 4 [0,1,6,7,25] [vn i,.slice a ts.length c,vn ts.length,.bool (decide (((i:Nat):Int)<((ts.length:Nat):Int)))] (oC (decide (((i:Nat):Int)<((ts.length:Nat):Int))) (fun hb11=>?_) (fun hb11=>?_)))
 ·rw [hb11]
  have:=yT hb11
  have:=ho.klen hf0 i
  refine aG (aA (aB (aI (jJ f39 1 [0,1,6,7,8] [vi 0] (aI ?_)))))
  refine oL (σ:=(Nat × Nat × (List Nat) × (Array Value) × Nat)) (fun s=>match s with |  ⟨j,q,N,_,κ⟩=>[(0,(.slice a ts.length c)),(1,(vi z)),(6,(vs q N.length κ)),(7,(vn i)),(8,(vn j))]) (fun s=>match s with |  ⟨_,q,_,C,_⟩=>[(q,(cL C 64))]) (fun s=>match s with |  ⟨j,_,_,_,_⟩=>(gT ts i).ks.length-j)
   (fun s=>match s with |  ⟨j,_,N,C,κ⟩=>(j≤(gT ts i).ks.length)∧(N++xE z.toNat ((gT ts i).ks.drop j++aK (ts.drop (i+1)))=xE z.toNat (aK ts))∧(uU z.toNat ((gT ts i).ks.drop j++aK (ts.drop (i+1)))=uU z.toNat (aK ts))∧(kU.A C N κ)∧(∀ n∈N,n<M)) ((0,q,N,C,κ)) (⟨Nat.zero_le _,kn_in (show i<ts.length from (oA (yF hb2))) hN0,ke_in (show i<ts.length from (oA (yF hb2))) hE0,hA,hM⟩) [] ?_
  rintro ⟨j,q,N,C,κ⟩
  rintro ⟨hj,hN,hE,hA,hM⟩
  refine aB (sS f39 8 [0,1,6,7,8,35] [] (fun _=>[vn j,.slice a ts.length c,vn i,.pointer (fK a (i*36)),.pointer (fK a (i*36+35)),.slice (gT ts i).ka (gT ts i).ks.length (gT ts i).kc,vn (gT ts i).ks.length,.bool (decide (((j:Nat):Int)<(((gT ts i).ks.length:Nat):Int)))]) (fun _=>[]) (cR [[],[],[]]<|cX (qF (fun _ _ _ hG=>bM.idx (k:=.i64) underlying24 sizeOf60 hG.fn.1 rfl (show ((i:Nat):Int)=((i:Nat):Int) from rfl) (show i<ts.length from (oA (yF hb2)))))<|cX (jF (fun _=>Instr.fieldAt 60 (.pointer (fK a (i*36))) 4) (fun _=>(.pointer (fK a (i*36+35)))) (fun _ _ _ hG=>uH (o:=35) (k:=i*36) underlying60 rfl rfl rfl sizeOf58 (hG.fn.1.pos (show i<ts.length from (oA (yF hb2)))).1 (hG.fn.1.pos (show i<ts.length from (oA (yF hb2)))).2) (fun _ _ _ _=>cO))<|cX (qF (fun _ _ _ hG=>bM.ld (v:=(.slice (gT ts i).ka (gT ts i).ks.length (gT ts i).kc)) (i:=i) (j:=35) isAgg58 hG.fn.1 (show i<ts.length from (oA (yF hb2))) (by decide) (by kernel_rfl)))<|jE [[],[]]) (fun _=>oC (decide (((j:Nat):Int)<(((gT ts i).ks.length:Nat):Int))) (fun hb12=>?_) (fun hb12=>?_)))
  ·rw [hb12]
   have:=yT hb12
   refine aG (aA (aB (aI (sS f39 10 [0,1,6,7,8,9] [] (fun ρ=>[.slice a ts.length c,vn i,.pointer (fK a (i*36)),.pointer (fK a (i*36+35)),.slice (gT ts i).ka (gT ts i).ks.length (gT ts i).kc,vn j,.pointer (fK (gT ts i).ka (j*45)),.agg (dO.row (gK (gT ts i).ks j)),pt (nb ρ 8),undef]) (fun ρ=>[(8,(nw ρ 8 (cL (kM 0 0 0 0 0 0 vz vF) 69))),(9,(bD 65 (nb ρ 8) (cL (dO.row (gK (gT ts i).ks j)) 69)))]) (cR [[],[]]<|cX (qF (fun _ _ _ hG=>bM.idx (k:=.i64) underlying24 sizeOf60 hG.fn.1 rfl (show ((i:Nat):Int)=((i:Nat):Int) from rfl) (show i<ts.length from (oA (yF hb2)))))<|cX (jF (fun _=>Instr.fieldAt 60 (.pointer (fK a (i*36))) 4) (fun _=>(.pointer (fK a (i*36+35)))) (fun _ _ _ hG=>uH (o:=35) (k:=i*36) underlying60 rfl rfl rfl sizeOf58 (hG.fn.1.pos (show i<ts.length from (oA (yF hb2)))).1 (hG.fn.1.pos (show i<ts.length from (oA (yF hb2)))).2) (fun _ _ _ _=>cO))<|cX (qF (fun _ _ _ hG=>bM.ld (v:=(.slice (gT ts i).ka (gT ts i).ks.length (gT ts i).kc)) (i:=i) (j:=35) isAgg58 hG.fn.1 (show i<ts.length from (oA (yF hb2))) (by decide) (by kernel_rfl)))<|cR [[]]<|cX (qF (fun _ _ _ hG=>oG.idx (k:=.i64) underlying58 sizeOf69 (hG.fn.1.sub _ (xAE (show i<ts.length from (oA (yF hb2))))) rfl (show ((j:Nat):Int)=((j:Nat):Int) from rfl) (show j<(gT ts i).ks.length from (oA (yF hb2)))))<|cX (qF (fun _ _ _ hG=>oG.ldA (i:=j) isAgg69 sizeOf69 (hG.fn.1.sub _ (xAE (show i<ts.length from (oA (yF hb2))))) (show j<(gT ts i).ks.length from (oA (yF hb2)))))<|jE [[],[65]]) (fun ρ38=>okJ2 (σ:=(Option Addr) × Nat × (List Nat)) (fun ⟨pa,pc,pq⟩=>[(0,(.slice a ts.length c)),(1,(vi z)),(6,(vs q N.length κ)),(7,(vn i)),(8,(vn j)),(9,(pt (nb ρ38 8))),(10,(.slice pa (nI pq).length pc))]) (fun ⟨_,_,_⟩=>[(q,(cL C 64)),(nb ρ38 8,(cL (dO.row (gK (gT ts i).ks j)) 69))]) (fun ⟨pa,pc,pq⟩=>(fun w=>bM w a c ts∧Is w .u32 pa pc (nI pq)∧True)) (fun ⟨_,_,pq⟩=>((gK (gT ts i).ks j).ix z.toNat=pq)∧(∀ x∈pq,x<4294967296)) ?_ ?_)))))
   ·rintro ⟨pa,pc,pq⟩ ⟨hq,hq32⟩
    refine sS f39 10 [0,1,6,7,8,11,12] [1,0,1] (fun ρ=>let qa:=vi (nM (gK (gT ts i).ks j).k pq);let qb:Value:=.agg (kY (iQ (gK (gT ts i).ks j).k pq));[pt (nb ρ38 8),.agg (kY (gK (gT ts i).ks j).k),.slice pa (nI pq).length pc,.tuple #[qb,qa],.tuple #[qb,qa],qb,qa,pt (nb ρ 7),undef,qa]) (fun ρ=>[(7,(nw ρ 7 (cL (kC 0 0 0 0 0 0) 66))),(8,(bD 58 (nb ρ 7) (cL (kY (iQ (gK (gT ts i).ks j).k pq)) 66)))]) (cR [[],[1],[]]<|cX (qC (fun _ _ w hG=>vJ (gK (gT ts i).ks j).k pa pc pq (ho.gK i j).k hq32 w hG.fn.2.1))<|jE [[],[],[],[],[58],[]]) (fun ρ39=>aB (jJ f39 2 [0,1,6,7,8,11,12,65] [vi (nM (gK (gT ts i).ks j).k pq),.bool ((nM (gK (gT ts i).ks j).k pq) != 0)] (oC ((nM (gK (gT ts i).ks j).k pq) != 0) (fun hb13=>?_) (fun hb13=>?_))))
    ·rw [hb13]
     refine jJ f39 3 [0,1,4,5,6,7,8,11] (let qa:=vi (nM (gK (gT ts i).ks j).k pq);[qa,vz,qa]) (aF (aC (aP (aC (aC (aP (aP (aC (aC (aP (aC (mD [(0,(.slice a ts.length c)),(1,(vi z)),(4,vz),(5,(vi (nM (gK (gT ts i).ks j).k pq))),(6,(vs q N.length κ)),(7,(vn i)),(8,(vn j)),(11,(pt (nb ρ39 7)))] [(q,(cL C 64)),(nb ρ39 7,(cL (kY (iQ (gK (gT ts i).ks j).k pq)) 66))] ?_))))))))))))
     exact mR (v:=(.tuple #[vz,vi (nM (gK (gT ts i).ks j).k pq)])) (fun _ hS=>(by rw [(pI (aV hb1) hb2 hb3 (l7 (show j<(gT ts i).ks.length from (oA (yF hb2))) hq hb13 hE) hb13).1,(pI (aV hb1) hb2 hb3 (l7 (show j<(gT ts i).ks.length from (oA (yF hb2))) hq hb13 hE) hb13).2];exact ⟨none,0,rfl,hS.bel,dB (fun _=>Us.nil)⟩))
    rw [hb13]
    refine aG (aA (rSf f39 6 [0,1,6,7,8] [1,0,0] (fun ρ=>let qa:=vs (nb ρ 4) (N++([(iQ (gK (gT ts i).ks j).k pq).p])).length (aZ ρ 4);[vs q N.length κ,jp (nb ρ39 7) 4,U (iQ (gK (gT ts i).ks j).k pq).p,vs (nb ρ 3) 1 1,qa,qa]) (fun ρ=>[(3,(nw ρ 3 (cL (cU (iQ (gK (gT ts i).ks j).k pq).p) 64))),(4,(bD 0 (nb ρ 4) (cL (oc ρ 4) 64)))]) (fun ρ=>[(4,fun w=>kU.A (oc ρ 4) (N++([(iQ (gK (gT ts i).ks j).k pq).p])) (aZ ρ 4))]) (fun _=>(fun w=>bM w a c ts∧Is w .u32 pa pc (nI pq)∧True)) (fun ρ=>kU.A (oc ρ 4) (N++([(iQ (gK (gT ts i).ks j).k pq).p])) (aZ ρ 4)) (fun _ _ hF hf=>⟨hF,hf 4⟩) (cR [[],[],[1],[]]<|cX (qM 0 (fun ρ _ _ hG hg=>wB (K:=kU) (ty:=80) (g:=q) (ts:=N) (us:=[(iQ (gK (gT ts i).ks j).k pq).p]) underlying80 (dA (sz:=4) (b:=32) (z:=(U 0)) (by kernel_rfl) rfl) hA (src_u1 underlying80 (hG.kn (g:=nb ρ 3) (o:=(cL (cU (iQ (gK (gT ts i).ks j).k pq).p) 64)) 26)) (by have:=kn_len (aV hb1) hN;have:=zN (R:=aK (ts.drop (i+1))) (show j<(gT ts i).ks.length from (oA (yF hb2)));simp only [List.length_cons,List.length_nil];omega) (by decide) hg))<|jE [[]]) (fun ρ42 ap42_4=>aJ (aA (rS f39 3 [0,1,6,7,8] [] (fun _=>[vn j,vn (j+1),vn (j+1)]) (fun _=>[]) (cR [[]]<|jW (fun ρ=>(((j:Nat):Int)+1)) (fun _=>(j+1)) (fun _=>(aW j 1 (oA (yF hb2))))<|jE [[]]) (fun _=>nD (fun w=>bM w a c ts∧True) (fun w hF=>⟨hF.1,trivial⟩) ?_))))))
    exact mN ((j+1,nb ρ42 4,N++([(iQ (gK (gT ts i).ks j).k pq).p]),oc ρ42 4,aZ ρ42 4)) (by show (gT ts i).ks.length-(j+1)<(gT ts i).ks.length-j;have:=yF hb2;omega) (⟨(oA (yF hb2)),wV (show j<(gT ts i).ks.length from (oA (yF hb2))) hq hN,xJ (show j<(gT ts i).ks.length from (oA (yF hb2))) hq hb13 hE,ap42_4,(fun n hn=>(List.mem_append.1 hn).elim (hM n) (fun hn=>by rw [List.mem_singleton.1 hn];exact (yR (ho.gK i j).k hq32).p))⟩) []
   intro J3
   refine iZ f39 5 [0,1,6,7,8,9,10] [] (fun ρ=>let qa:=vs (nb ρ 3) (nI (([]:List Nat)++(gK (gT ts i).ks j).ps)).length (aZ ρ 3);[vs (nb ρ 0) 0 0,jp (nb ρ38 8) 43,.slice (gK (gT ts i).ks j).pa (nI (gK (gT ts i).ks j).ps).length (gK (gT ts i).ks j).pc,qa,qa]) (fun ρ=>[(0,(nw ρ 0 (cL #[] 55))),(3,(bD 2 (nb ρ 3) (cL (oc ρ 3) 55)))]) (fun ρ=>[(3,fun w=>kI.A (oc ρ 3) (([]:List Nat)++(gK (gT ts i).ks j).ps) (aZ ρ 3))]) (fun _=>(fun w=>bM w a c ts∧True)) (fun ρ=>kI.A (oc ρ 3) (([]:List Nat)++(gK (gT ts i).ks j).ps) (aZ ρ 3)) (fun _ _ hF hf=>⟨hF,hf 3⟩) (cR [[],[],[1]]<|cX (qM 2 (fun ρ _ _ hG hg=>lT (ty:=67) (g:=nb ρ 0) (ts:=([]:List Nat)) (us:=(gK (gT ts i).ks j).ps) underlying67 (dA (sz:=1) (b:=4) (z:=(.int .u32 0)) (by kernel_rfl) rfl) RowK.A.empty (src_is underlying67 ((hG.fn.1.sub _ (xAE (show i<ts.length from (oA (yF hb2))))).sub _ (nU (show j<(gT ts i).ks.length from (oA (yF hb2)))))) (by have:=jC (aV hb1) (show i<ts.length from (oA (yF hb2))) (show j<(gT ts i).ks.length from (oA (yF hb2)));simp only [List.length_nil];omega) (by decide) hg))<|jE [[]]) (fun ρ44 ap44_3=>aB (jM f39 2 [0,1,6,7,8,9,10,51] [] [jp (nb ρ38 8) 44,.bool (gK (gT ts i).ks j).wd] [[],[1]] (oC (gK (gT ts i).ks j).wd (fun hb14=>?_) (fun hb14=>?_))))
   ·rw [hb14]
    refine rSf f39 6 [0,1,6,7,8,9,10] [1,1,1,0] (fun ρ=>let qa:=vs (nb ρ 4) (nI ((([]:List Nat)++(gK (gT ts i).ks j).ps)++([z.toNat]))).length (aZ ρ 4);[vs (nb ρ44 3) (nI (([]:List Nat)++(gK (gT ts i).ks j).ps)).length (aZ ρ44 3),vi z,vu z.toNat,vs (nb ρ 3) 1 1,qa,qa]) (fun ρ=>[(3,(nw ρ 3 (cL #[vu z.toNat] 55))),(4,(bD 2 (nb ρ 4) (cL (oc ρ 4) 55)))]) (fun ρ=>[(4,fun w=>kI.A (oc ρ 4) ((([]:List Nat)++(gK (gT ts i).ks j).ps)++([z.toNat])) (aZ ρ 4))]) (fun _=>(fun w=>bM w a c ts∧True)) (fun ρ=>kI.A (oc ρ 4) ((([]:List Nat)++(gK (gT ts i).ks j).ps)++([z.toNat])) (aZ ρ 4)) (fun _ _ hF hf=>⟨hF,hf 4⟩) (cR [[],[]]<|cA (fun _=>(vu z.toNat)) (fun _=>jN (u32Z hb2 hb3))<|cR [[]]<|cX (qM 2 (fun ρ _ _ hG hg=>lT (ty:=67) (g:=nb ρ44 3) (ts:=([]:List Nat)++(gK (gT ts i).ks j).ps) (us:=[z.toNat]) underlying67 (dA (sz:=1) (b:=4) (z:=(.int .u32 0)) (by kernel_rfl) rfl) ap44_3 (tJ underlying67 (hG.kn (g:=nb ρ 3) (o:=(cL #[vu z.toNat] 55)) 27)) (by have:=jC (aV hb1) (show i<ts.length from (oA (yF hb2))) (show j<(gT ts i).ks.length from (oA (yF hb2)));simp only [List.length_append,List.length_cons,List.length_nil];omega) (by decide) hg))<|jE [[]]) (fun ρ46 ap46_4=>aA (lK [(0,(.slice a ts.length c)),(1,(vi z)),(6,(vs q N.length κ)),(7,(vn i)),(8,(vn j)),(9,(pt (nb ρ38 8))),(10,(vs (nb ρ46 4) (nI ((([]:List Nat)++(gK (gT ts i).ks j).ps)++([z.toNat]))).length (aZ ρ46 4)))] [(q,(cL C 64)),(nb ρ38 8,(cL (dO.row (gK (gT ts i).ks j)) 69)),(nb ρ46 4,(cL (oc ρ46 4) 55))] ?_))
    exact okE J3 (some ⟨nb ρ46 4,0,none⟩,aZ ρ46 4,(([]:List Nat)++(gK (gT ts i).ks j).ps)++[z.toNat]) (⟨ix_d hb14,(fun x hx=>(List.mem_append.1 hx).elim ((ho.gK i j).ps x) (fun hx=>by rw [List.mem_singleton.1 hx];exact (z32n hb2 hb3)))⟩) (fun w hS=>(hS.frozI (e:=55) (fr:=(0,0)) 2 ap46_4 (by have:=jC (aV hb1) (show i<ts.length from (oA (yF hb2))) (show j<(gT ts i).ks.length from (oA (yF hb2)));simp only [List.length_append,List.length_cons,List.length_nil];omega) []).weaken (fun w hF=>⟨hF.2.1,hF.1,trivial⟩))
   rw [hb14]
   refine aG (aA (lK [(0,(.slice a ts.length c)),(1,(vi z)),(6,(vs q N.length κ)),(7,(vn i)),(8,(vn j)),(9,(pt (nb ρ38 8))),(10,(vs (nb ρ44 3) (nI (([]:List Nat)++(gK (gT ts i).ks j).ps)).length (aZ ρ44 3))),(51,vF)] [(q,(cL C 64)),(nb ρ38 8,(cL (dO.row (gK (gT ts i).ks j)) 69)),(nb ρ44 3,(cL (oc ρ44 3) 55))] ?_))
   exact okE J3 (some ⟨nb ρ44 3,0,none⟩,aZ ρ44 3,([]:List Nat)++(gK (gT ts i).ks j).ps) (⟨ix_c hb14,(ho.gK i j).ps⟩) (fun w hS=>(hS.frozI (e:=55) (fr:=(0,0)) 2 ap44_3 (by have:=jC (aV hb1) (show i<ts.length from (oA (yF hb2))) (show j<(gT ts i).ks.length from (oA (yF hb2)));simp only [List.length_append,List.length_nil];omega) []).weaken (fun w hF=>⟨hF.2.1,hF.1,trivial⟩))
  rw [hb12]
  have:=yF hb12
  refine bF (aN (aN (aT (aJ (aA (rS f39 3 [0,1,6,7] [] (fun _=>[vn i,vn (i+1),vn (i+1)]) (fun _=>[]) (cR [[]]<|jW (fun ρ=>(((i:Nat):Int)+1)) (fun _=>(i+1)) (fun _=>(aW i 1 (oA (yF hb2))))<|jE [[]]) (fun _=>?_)))))))
  exact mN (Sum.inr (i+1,q,N,C,κ)) (by show ts.length-(i+1)<ts.length-i;have:=yF hb2;omega) (⟨(oA (yF hb2)),kn_out (oA (yF hb2)) hN,ke_out (oA (yF hb2)) hE,hA,hM⟩) []
 rw [hb11]
 have:=ho.klen hf0 i
 refine bF (aN (aN (aT (aA (jJ f39 3 [4,5] [vs q N.length κ,vs q N.length κ,vi 0] (aF (mD [(4,(vs q N.length κ)),(5,(vi 0))] [(q,(cL C 64))] ?_)))))))
 exact mR (v:=(.tuple #[vs q N.length κ,vi 0])) (fun _ hS=>(by rw [(ky_ok (aV hb1) hb2 hb3 (oB (yF hb2) (yF hb11)) hE0 hN0).1,(ky_ok (aV hb1) hb2 hb3 (oB (yF hb2) (yF hb11)) hE0 hN0).2];exact ⟨some ⟨q,0,none⟩,κ,rfl,hS.bel,Us.new (hS.newb (.head _)) hA (oA (kn_len (aV hb1) hN0)) hM⟩))
theorem xU (a:Option Addr) (c:Nat) (ts:List bW) (z:Int) (n:Nat) (m:Nat) (hB:kZ ts z=0→BlC ts (gV ts z) (xP ts z) n m) (w0:World) (hf0:bM w0 a c ts):Calls prog 15 #[.slice a ts.length c,vi z] w0 (fun ε w'=>∃ α κ,ε=.returned (.tuple #[.slice α (wG ts z).length κ,vi (pX ts z)])∧jG w0 w'∧Fs w0 w' α κ (wG ts z)):=by
 refine Calls.of_ok (n:=31) (F:=(fun w=>bM w a c ts∧True)) func15 rfl rfl rfl (by simp) (hf0.pers0.and cO) (jJ f15 2 [0,1,4,5] [vz,vi 0] (iZ f15 8 [0,4,5,6,7] [] (fun ρ=>let qa:Value:=.slice (oa ρ 2) (gV ts z).length (nb ρ 2);[.slice a ts.length c,vi z,.tuple #[qa,vi (kZ ts z)],.tuple #[qa,vi (kZ ts z)],qa,vi (kZ ts z),qa,vi (kZ ts z)]) (fun _=>[]) (fun ρ=>[(2,fun w=>Us w (oa ρ 2) (nb ρ 2) (gV ts z))]) (fun ρ=>(fun w=>bM w a c ts∧Us w (oa ρ 2) (nb ρ 2) (gV ts z)∧True)) (fun _=>True) (fun _ _ hF hf=>⟨⟨hF.1,hf 2,trivial⟩,trivial⟩) (cR [[],[]]<|cX (qV (fun _ _ w hG=>rdkeys_any a c ts z w hG.fn.1))<|jE [[],[],[],[],[]]) (fun ρ2 _=>aB (jJ f15 2 [0,4,5,6,7,18] [vi (kZ ts z),.bool ((kZ ts z) != 0)] (oC ((kZ ts z) != 0) (fun hb1=>?_) (fun hb1=>?_))))))
 ·rw [hb1]
  refine jJ f15 3 [0,4,5,6] [vi (kZ ts z),vz,vi (kZ ts z)] (aF (aC (mD [(0,(.slice a ts.length c)),(4,vz),(5,(vi (kZ ts z))),(6,(.slice (oa ρ2 2) (gV ts z).length (nb ρ2 2)))] [] ?_)))
  exact mR (v:=(.tuple #[vz,vi (kZ ts z)])) (fun _ hS=>⟨none,0,congrArg Ending.returned (by rw [(ex_err hb1).1,(ex_err hb1).2]<;>rfl),hS.bel,dU (ex_err hb1).2.symm Fs.nil⟩)
 rw [hb1]
 refine aG (aA (iZ f15 10 [4,5,8] [] (fun ρ=>let qa:Value:=.slice (oa ρ 2) (xP ts z).length (nb ρ 2);[.slice a ts.length c,.slice (oa ρ2 2) (gV ts z).length (nb ρ2 2),.tuple #[qa,vn n,vn m],.tuple #[qa,vn n,vn m],qa,vn n,vn m,qa,vn n,vn m]) (fun _=>[]) (fun ρ=>[(2,fun w=>Fs w0 w (oa ρ 2) (nb ρ 2) (xP ts z))]) (fun ρ=>(fun w=>bM w a c ts∧Us w (oa ρ2 2) (nb ρ2 2) (gV ts z)∧Fs w0 w (oa ρ 2) (nb ρ 2) (xP ts z)∧True)) (fun _=>True) (fun _ _ hF hf=>⟨⟨hF.1,hF.2.1,hf 2,trivial⟩,trivial⟩) (cR [[],[]]<|cX (qB (fun _ _ w hG=>hB (dD hb1) a (oa ρ2 2) c (nb ρ2 2) w hG.fn.1 hG.fn.2.1))<|jE [[],[],[],[],[],[],[]]) (fun ρ5 _=>aB (jJ f15 3 [4,5,8,29] [.slice (oa ρ5 2) (xP ts z).length (nb ρ5 2),vn (xP ts z).length,.bool (decide (520<(((xP ts z).length:Nat):Int)))] (oC (decide (520<(((xP ts z).length:Nat):Int))) (fun hb2=>?_) (fun hb2=>?_))))))
 ·rw [hb2]
  refine jJ f15 2 [4,5,8] [vz,vi 4] (aF (aC (mD [(4,vz),(5,(vi 4)),(8,(.slice (oa ρ5 2) (xP ts z).length (nb ρ5 2)))] [] ?_)))
  exact mR (v:=(.tuple #[vz,vi 4])) (fun _ hS=>⟨none,0,congrArg Ending.returned (by rw [(wQ hb1 hb2).1,(wQ hb1 hb2).2]<;>rfl),hS.bel,dU (wQ hb1 hb2).2.symm Fs.nil⟩)
 rw [hb2]
 refine aG (aA (jJ f15 3 [4,5] (let qa:Value:=.slice (oa ρ5 2) (xP ts z).length (nb ρ5 2);[qa,qa,vi 0]) (aF (mD [(4,(.slice (oa ρ5 2) (xP ts z).length (nb ρ5 2))),(5,(vi 0))] [] ?_))))
 exact mR (v:=(.tuple #[.slice (oa ρ5 2) (xP ts z).length (nb ρ5 2),vi 0])) (fun _ hS=>⟨oa ρ5 2,nb ρ5 2,congrArg Ending.returned (by rw [(ex_ok hb1 hb2).1,(ex_ok hb1 hb2).2]<;>rfl),hS.bel,dU (ex_ok hb1 hb2).2.symm hS.facts.now.2.2.1⟩)
theorem xAC (a:Option Addr) (c:Nat) (ts:List bW) (z:Int) (h2:∀ t∈ts,t.kd=1) (w0:World) (hf0:bM w0 a c ts):Calls prog 15 #[.slice a ts.length c,.int .i64 z] w0 (fun ε w'=>∃ α κ,ε=.returned (.tuple #[.slice α (wG ts z).length κ,.int .i64 (pX ts z)])∧jG w0 w'∧Fs w0 w' α κ (wG ts z)):=by
 by_cases h0:kZ ts z=0
 ·obtain ⟨n, m, hB⟩ := build_ex h0 h2 hf0.oks (kyN_ok hf0.oks z)
  exact xU a c ts z n m (fun _=>hB) w0 hf0
 ·exact xU a c ts z 0 0 (fun h=>absurd h h0) w0 hf0
theorem ixB_hi:∀ {S:List UInt8} {L:List (List UInt8)} {i:Nat},tH S L i<(i:Int)+L.length∨tH S L i= -1
 | _,[],_=>Or.inr rfl
 | S, x :: r, i => by
   unfold tH
   split
   ·exact Or.inl (by simp only [List.length_cons];omega)
   ·rcases @ixB_hi S r (i + 1) with h | h
    ·exact Or.inl (by simp only [List.length_cons];omega)
    ·exact Or.inr h
theorem ixB_app:∀ {S:List UInt8} {A B:List (List UInt8)} {i:Nat},tH S A i≠ -1→tH S (A++B) i=tH S A i
 | _,[],_,_,h=>absurd rfl h
 | S, x :: r, B, i, h => by
   rw [List.cons_append]
   unfold tH at h ⊢
   split
   ·rfl
   ·rename_i hx
    rw [if_neg hx] at h
    exact ixB_app h
theorem filter_lt {α : Type} {p q : α → Bool} : ∀ {l : List α}, (∀ x ∈ l, p x = true → q x = true) → (∃ x ∈ l, q x = true ∧ p x = false) → (l.filter p).length + 1 ≤ (l.filter q).length
 | [],_,⟨_,h,_⟩=>absurd h (by simp)
 | y :: r, hm, ⟨x, hx, hq, hp⟩ => by
   have le:∀ {l:List α},(∀ x∈l,p x=true→q x=true)→(l.filter p).length≤(l.filter q).length:=by
    intro l
    induction l with
    | nil=>intro _;simp
    | cons z t ih =>
      intro h
      have:=ih (fun x hx=>h x (List.mem_cons_of_mem _ hx))
      rw [List.filter_cons,List.filter_cons]
      cases hz:p z
      ·cases q z<;>simp<;>omega
      ·rw [h z List.mem_cons_self hz];simpa using this
   have hm':∀ x∈r,p x=true→q x=true:=fun x hx=>hm x (List.mem_cons_of_mem _ hx)
   rw [List.filter_cons,List.filter_cons]
   rcases List.mem_cons.1 hx with rfl | hr
   ·rw [hq, hp]
    have:=le hm'
    simpa using this
   ·have ih := filter_lt hm' ⟨x, hr, hq, hp⟩
    cases hy:p y
    ·cases q y<;>simp<;>omega
    ·rw [hm y List.mem_cons_self hy];simpa using ih
section
variable (X : Nat → List UInt8) (E : Nat → Int) (g : Nat) (l : List (List UInt8))
def gX (n:Nat):List (List UInt8):=(List.range n).map X
def fX (u:Nat) (s:List UInt8):Int:=tH s (gX X (u+g)) 0
def y8 (n:Nat):Prop:=∀ i,i<n→E i=0
def Cl (u:Nat):Prop:=∀ s∈l,fX X g u s<(u:Int)
def NtOk (u:Nat):Prop:=Cl X g l u∧y8 E (u+g)∧∀ U,Cl X g l U→u≤U
def NtEr (e:Int):Prop:=∃ j,y8 E j∧E j=e∧e≠0∧∀ U,Cl X g l U→¬ y8 E (U+g)
def usX (u:Nat):Nat:=(l.filter (fun s=>decide (0≤fX X g u s∧fX X g u s<(u:Int)))).length
structure NtS (u:Nat):Prop where
 ok:y8 E (u+g)
 lo:∀ U,Cl X g l U→u≤U
 bd:u≤g*usX X g l u
variable {X E g l}
theorem gX_ext {n m:Nat} (h:n≤m):∃ B,gX X m=gX X n++B:=by
 obtain ⟨d,rfl⟩:=Nat.exists_eq_add_of_le h
 induction d with
 | zero=>exact ⟨[],by simp⟩
 | succ d ih =>
   obtain ⟨B,hB⟩:=ih (by omega)
   refine ⟨B++[X (n+d)],?_⟩
   rw [← List.append_assoc,← hB]
   unfold gX
   rw [← Nat.add_assoc,List.range_succ,List.map_append];rfl
theorem xBG {u v:Nat} {s:List UInt8} (h:u≤v) (hs:0≤fX X g u s):fX X g v s=fX X g u s:=by
 obtain ⟨B,hB⟩:=gX_ext (X:=X) (show u+g≤v+g by omega)
 unfold fX at hs ⊢
 rw [hB]
 exact ixB_app (by omega)
theorem fX_lt {u:Nat} {s:List UInt8} (h:0≤fX X g u s):fX X g u s<(u+g:Nat):=by
 unfold fX at h ⊢
 rcases @ixB_hi s (gX X (u+g)) 0 with k | k
 ·unfold gX at k ⊢
  rw [List.length_map,List.length_range] at k
  omega
 ·omega
theorem usX_le (u:Nat):usX X g l u≤l.length:=List.length_filter_le _ _
theorem NtOk.uniq {u v:Nat} (h:NtOk X E g l u) (k:NtOk X E g l v):u=v:=Nat.le_antisymm (h.2.2 v k.1) (k.2.2 u h.1)
theorem NtOk.er {u:Nat} {e:Int} (h:NtOk X E g l u) (k:NtEr X E g l e):False:=by
 obtain ⟨_,_,_,_,h5⟩:=k
 exact h5 u h.1 h.2.1
theorem NtEr.uniq {e f:Int} (h:NtEr X E g l e) (k:NtEr X E g l f):e=f:=by
 obtain ⟨i,h1,h2,h3,_⟩:=h
 obtain ⟨j,k1,k2,k3,_⟩:=k
 rcases Nat.lt_trichotomy i j with q | q | q
 ·exact absurd (h2.symm.trans (k1 i q)) h3
 ·rw [← h2,← k2,q]
 ·exact absurd (k2.symm.trans (h1 j q)) k3
theorem NtS.start (h:y8 E g):NtS X E g l 0:=⟨by rwa [Nat.zero_add],fun _ _=>Nat.zero_le _,Nat.zero_le _⟩
theorem NtS.ask {u k:Nat} {s:List UInt8} (h:NtS X E g l u) (hs:s∈l) (hf:fX X g u s=(k:Int)):∀ U,Cl X g l U→k+1≤U:=fun U hU=>by
 have h1:=h.lo U hU
 have h2:=hU s hs
 rw [xBG h1 (by omega),hf] at h2
 omega
theorem NtS.next {u k:Nat} {s:List UInt8} (h:NtS X E g l u) (hs:s∈l) (hf:fX X g u s=(k:Int)) (hu:u≤k) (ok:y8 E (k+1+g)):NtS X E g l (k+1):=by
 refine ⟨ok,h.ask hs hf,?_⟩
 have h1:=fX_lt (X:=X) (g:=g) (u:=u) (s:=s) (by omega)
 have h2:usX X g l u+1≤usX X g l (k+1):=filter_lt (fun x hx hp=>by
  have hp:=of_decide_eq_true hp
  rw [xBG (show u≤k+1 by omega) hp.1]
  exact decide_eq_true ⟨hp.1,by omega⟩) ⟨s,hs,by
   rw [xBG (show u≤k+1 by omega) (by omega)]
   exact decide_eq_true ⟨by omega,by omega⟩,decide_eq_false (by omega)⟩
 have h3:=h.bd
 have h4:=Nat.mul_le_mul_left g h2
 rw [Nat.mul_add,Nat.mul_one] at h4
 omega
theorem NtS.more {u k:Nat} {s:List UInt8} (hs:s∈l) (hf:fX X g u s=(k:Int)) (hu:u≤k):l.length-usX X g l (k+1)<l.length-usX X g l u:=by
 have h2:usX X g l u+1≤usX X g l (k+1):=filter_lt (fun x hx hp=>by
  have hp:=of_decide_eq_true hp
  rw [xBG (show u≤k+1 by omega) hp.1]
  exact decide_eq_true ⟨hp.1,by omega⟩) ⟨s,hs,by
   rw [xBG (show u≤k+1 by omega) (by omega)]
   exact decide_eq_true ⟨by omega,by omega⟩,decide_eq_false (by omega)⟩
 have:=usX_le (X:=X) (g:=g) (l:=l) (k+1)
 omega
theorem NtS.done {u:Nat} (h:NtS X E g l u) (hc:Cl X g l u):NtOk X E g l u:=⟨hc,h.ok,h.lo⟩
theorem NtS.fail {u k j:Nat} {s:List UInt8} (h:NtS X E g l u) (hs:s∈l) (hf:fX X g u s=(k:Int)) (hj:j<k+1+g) (ok:y8 E j) (he:E j≠0):NtEr X E g l (E j) :=
 ⟨j,ok,rfl,he,fun U hU hk=>he (hk j (by have:=h.ask hs hf U hU;omega))⟩
theorem NtS.le {u:Nat} (h:NtS X E g l u):u≤g*l.length:=Nat.le_trans h.bd (Nat.mul_le_mul_left g (usX_le u))
end
def qL (E:Nat→Int):Nat→Int
 | 0=>0
 | n+1=>if qL E n=0 then E n else qL E n
theorem xAH {E:Nat→Int}:∀ {n:Nat},qL E n=0↔y8 E n
 | 0=>⟨fun _ i hi=>absurd hi (Nat.not_lt_zero i),fun _=>rfl⟩
 | n + 1 => by
   have ih:= @xAH E n
   unfold qL
   split
   ·rename_i h
    refine ⟨fun h2 i hi=>?_,fun h2=>h2 n (Nat.lt_succ_self n)⟩
    rcases Nat.lt_succ_iff_lt_or_eq.1 hi with h3 | rfl
    ·exact ih.1 h i h3
    ·exact h2
   ·rename_i h
    exact ⟨fun h2=>absurd h2 h,fun h2=>absurd (ih.2 (fun i hi=>h2 i (Nat.lt_succ_of_lt hi))) h⟩
theorem frE_er {E:Nat→Int}:∀ {n:Nat},qL E n≠0→∃ j,j<n∧y8 E j∧E j=qL E n∧E j≠0
 | 0,h=>absurd rfl h
 | n + 1, h => by
   by_cases h1:qL E n=0
   ·have e : qL E (n + 1) = E n := if_pos h1
    exact ⟨n,Nat.lt_succ_self n,xAH.1 h1,e.symm,by rw [← e];exact h⟩
   ·have e : qL E (n + 1) = qL E n := if_neg h1
    obtain ⟨j,a,b,c,d⟩:=frE_er h1
    exact ⟨j,Nat.lt_succ_of_lt a,b,by rw [e];exact c,d⟩
theorem y8.le {E:Nat→Int} {m n:Nat} (h:y8 E n) (hm:m≤n):y8 E m:=fun i hi=>h i (Nat.lt_of_lt_of_le hi hm)
def mxI (x y:Int):Int:=if y>x then y else x
theorem mxI_l (x y:Int):x≤mxI x y:=by unfold mxI;split<;>omega
theorem mxI_r (x y:Int):y≤mxI x y:=by unfold mxI;split<;>omega
theorem mxI_or (x y:Int):mxI x y=x∨mxI x y=y:=by unfold mxI;split<;>simp
def mxL (L:List (List UInt8)):List (List UInt8)→Int
 | []=> -1
 | s::r=>mxI (mxL L r) (tH s L 0)
theorem mxL_ge {L:List (List UInt8)}:∀ {l:List (List UInt8)} {s:List UInt8},s∈l→tH s L 0≤mxL L l
 | x :: r, s, h => by
   unfold mxL
   rcases List.mem_cons.1 h with rfl | hr
   ·exact mxI_r _ _
   ·exact Int.le_trans (mxL_ge hr) (mxI_l _ _)
theorem mxL_mem {L:List (List UInt8)}:∀ {l:List (List UInt8)},mxL L l= -1∨∃ s∈l,tH s L 0=mxL L l
 | []=>Or.inl rfl
 | x :: r => by
   unfold mxL
   rcases mxI_or (mxL L r) (tH x L 0) with h | h
   ·rw [h]
    exact (@mxL_mem L r).imp id (fun ⟨s,hs,e⟩=>⟨s,List.mem_cons_of_mem _ hs,e⟩)
   ·exact Or.inr ⟨x,List.mem_cons_self,h.symm⟩
theorem mxL_app {L:List (List UInt8)} {s:List UInt8}:∀ {l:List (List UInt8)},mxL L (l++[s])=mxI (mxL L l) (tH s L 0)
 | []=>rfl
 | x :: r => by
   show mxI (mxL L (r++[s])) (tH x L 0)=mxI (mxI (mxL L r) (tH x L 0)) (tH s L 0)
   rw [mxL_app]
   unfold mxI
   repeat' split
   all_goals omega
theorem mxL_next {L:List (List UInt8)} {m:List bU} {i:Nat} (h:i<m.length):mxL L (sB (m.take (i+1)))=mxI (mxL L (sB (m.take i))) (tH (gS m i).b L 0):=by
 rw [List.take_add_one,List.getElem?_eq_getElem h]
 unfold sB
 rw [List.map_append]
 show mxL L (_++[(m[i]).b])=_
 rw [mxL_app]
 have:gS m i=m[i]:=by unfold gS;rw [List.getD_eq_getElem?_getD,List.getElem?_eq_getElem h];rfl
 rw [this]
section
variable (X : Nat → List UInt8) (E : Nat → Int) (g : Nat) (l : List (List UInt8))
def ntF : Nat → Nat → Nat × Int
 | 0,u=>(u,0)
 | n + 1, u =>
   match l.find? (fun s=>decide ((u:Int)≤fX X g u s)) with
   | none=>(u,0)
   | some s=>if qL E ((fX X g u s).toNat+1+g)=0 then ntF n ((fX X g u s).toNat+1) else (u,qL E ((fX X g u s).toNat+1+g))
def qW:Nat:=(ntF X E g l (l.length+1) 0).1
def ntE:Int:=(ntF X E g l (l.length+1) 0).2
variable {X E g l}
theorem ntF_spec : ∀ {n u : Nat}, NtS X E g l u → l.length - usX X g l u < n → ((ntF X E g l n u).2 = 0 ∧ NtOk X E g l (ntF X E g l n u).1) ∨ ((ntF X E g l n u).2 ≠ 0 ∧ NtEr X E g l (ntF X E g l n u).2)
 | 0,u,_,hn=>absurd hn (Nat.not_lt_zero _)
 | n + 1, u, h, hn => by
   unfold ntF
   split
   ·rename_i hf
    refine Or.inl ⟨rfl,h.done (fun s hs=>?_)⟩
    have:=List.find?_eq_none.1 hf s hs
    simp only [decide_eq_true_eq] at this
    omega
   ·rename_i s hf
    have hs:=List.mem_of_find?_eq_some hf
    have hu:(u:Int)≤fX X g u s:=by have:=List.find?_some hf;simpa using this
    have hk:fX X g u s=(((fX X g u s).toNat:Nat):Int):=by omega
    split
    ·rename_i h0
     have hu':u≤(fX X g u s).toNat:=by omega
     exact ntF_spec (h.next hs hk hu' (xAH.1 h0)) (by have:=NtS.more (X:=X) (g:=g) (l:=l) hs hk hu';omega)
    ·rename_i h0
     obtain ⟨j,h1,h2,h3,h4⟩:=frE_er h0
     exact Or.inr ⟨h0,by rw [← h3];exact h.fail hs hk h1 h2 h4⟩
theorem nt_spec (h:y8 E g):(ntE X E g l=0∧NtOk X E g l (qW X E g l))∨(ntE X E g l≠0∧NtEr X E g l (ntE X E g l)) :=
 ntF_spec (NtS.start h) (by omega)
theorem NtOk.is {u:Nat} (h:y8 E g) (k:NtOk X E g l u):ntE X E g l=0∧u=qW X E g l :=
 (nt_spec h).elim (fun ⟨a,b⟩=>⟨a,k.uniq b⟩) (fun ⟨_,b⟩=>(k.er b).elim)
theorem NtEr.is {e:Int} (h:y8 E g) (k:NtEr X E g l e):ntE X E g l≠0∧e=ntE X E g l :=
 (nt_spec h).elim (fun ⟨_,b⟩=>(b.er k).elim) (fun ⟨a,b⟩=>⟨a,k.uniq b⟩)
theorem NtS.mxDone {u:Nat} {z:Int} (h:NtS X E g l u) (hz:z=mxL (gX X (u+g)) l) (hu:z<(u:Int)):NtOk X E g l u :=
 h.done (fun _ hs=>Int.lt_of_le_of_lt (mxL_ge hs) (hz ▸ hu))
theorem NtS.mxGo {u:Nat} {z:Int} (hz:z=mxL (gX X (u+g)) l) (hu:(u:Int)≤z):∃ s∈l,fX X g u s=((z.toNat:Nat):Int)∧u≤z.toNat:=by
 rcases @mxL_mem (gX X (u+g)) l with h | ⟨s,hs,h⟩
 ·omega
 ·exact ⟨s,hs,by unfold fX;omega,by omega⟩
theorem NtS.mxNext {u:Nat} {z:Int} (h:NtS X E g l u) (hz:z=mxL (gX X (u+g)) l) (hu:(u:Int)≤z) (h0:qL E (z.toNat+1+g)=0):NtS X E g l (z.toNat+1):=by
 obtain ⟨s,hs,h1,h2⟩:=NtS.mxGo hz hu
 exact h.next hs h1 h2 (xAH.1 h0)
theorem NtS.mxMore {u:Nat} {z:Int} (hz:z=mxL (gX X (u+g)) l) (hu:(u:Int)≤z):l.length-usX X g l (z.toNat+1)<l.length-usX X g l u:=by
 obtain ⟨s,hs,h1,h2⟩:=NtS.mxGo hz hu
 exact NtS.more hs h1 h2
end
theorem mxL_lt {L l:List (List UInt8)}:mxL L l<(L.length:Int):=by
 rcases @mxL_mem L l with h | ⟨s,_,h⟩
 ·omega
 ·rcases @ixB_hi s L 0 with k | k<;>omega
theorem gX_len (X:Nat→List UInt8) (n:Nat):(gX X n).length=n:=by unfold gX;rw [List.length_map,List.length_range]
theorem sB_gX {X:Nat→List UInt8} {n:Nat} {M:List bU} (h:sB M=gX X n):M.length=n:=by
 have e:=congrArg List.length h
 rwa [xAQ,gX_len] at e
def oX (k:Ky) (i:Nat):List UInt8:=wG [oT k true none 0] ((i:Nat):Int)
def oE (k:Ky) (i:Nat):Int:=pX [oT k true none 0] ((i:Nat):Int)
section
variable {k : Ky} {wd : Bool} {ka kb : Option Addr} {kc kd : Nat} {z : Int}
theorem oT_kyE:kZ [oT k wd ka kc] z=kZ [oT k wd kb kd] z:=by
 have h1:xW [oT k wd ka kc]=xW [oT k wd kb kd]:=rfl
 have h2:aK [oT k wd ka kc]=aK [oT k wd kb kd]:=rfl
 unfold kZ
 rw [h1,h2]
theorem oT_exL:xP [oT k wd ka kc] z=xP [oT k wd kb kd] z:=by
 have h2:aK [oT k wd ka kc]=aK [oT k wd kb kd]:=rfl
 have h3:gV [oT k wd ka kc] z=gV [oT k wd kb kd] z:=by
  unfold gV
  rw [oT_kyE (kb:=kb) (kd:=kd),h2]
 unfold xP
 rw [h3]
 exact nxB_sim rfl
theorem oT_exE:pX [oT k wd ka kc] z=pX [oT k wd kb kd] z:=by
 unfold pX
 rw [oT_kyE (kb:=kb) (kd:=kd),oT_exL (kb:=kb) (kd:=kd)]
theorem oT_exB:wG [oT k wd ka kc] z=wG [oT k wd kb kd] z:=by
 unfold wG
 rw [oT_exE (kb:=kb) (kd:=kd),oT_exL (kb:=kb) (kd:=kd)]
theorem oT_gw (n:Nat):gwB [oT k true ka kc] n=gX (oX k) n:=by
 unfold gwB gX
 exact List.map_congr_left (fun i _=>oT_exB)
theorem oT_oE (i:Nat):pX [oT k true ka kc] ((i:Nat):Int)=oE k i:=oT_exE
end
theorem wgrow1_any (a:Option Addr) (c:Nat) (k:Ky) (ka:Option Addr) (kc:Nat) (g κ:Nat) (C:Array Value) (l:List bU) (n N:Nat) (hn:n≤40) (hA:kW.A C l κ) (hL:sB l=gX (oX k) l.length) (hl:l.length≤n) (h0:qL (oE k) n=0) (hN:sK N l) (w0:World) (hNw:N≤w0.heap.size) (hb:w0.heap[g]? = some (.cells C 37 (0,0))) (hP:dL (fun b=>b∈([(g,.cells C 37 (0,0))]:List (Nat × Obj)).map (·.1)) (fun w=>bM w a c ([oT k true ka kc])∧kJ w∧fU w∧dN w l∧True) w0) (T:Nat→Prop) (hTg:T g) (hT:∀ b,T b→b<w0.heap.size) (hY:dL T (fun w=>dN w l) w0):Calls prog 33 #[.slice (some ⟨g,0,none⟩) l.length κ,.slice a ([oT k true ka kc]).length c,.int .i64 ((n:Nat):Int)] w0 (fun ε w'=>∃ r:bH,ε=.returned (.tuple #[.slice (some ⟨r.n.headD 0,0,none⟩) r.s.length (r.n.tail.headD 0),.int .i64 0])∧MvC w0 w' g (r.n.headD 0) (.cells (uG r) 37 (0,0))∧dL (fun b=>T b∨b=r.n.headD 0) (fun w=>dN w r.s∧kW.A (uG r) r.s (r.n.tail.headD 0)∧sB r.s=gX (oX k) n∧sK N r.s) w'):=by
 refine (wgrowF_any a c [oT k true ka kc] g κ C l n oT_kd hn hA (hL.trans (oT_gw _).symm) hl (fun i hi=>(oT_oE i).trans (xAH.1 h0 i hi)) w0 (fun x hx=>by rw [List.mem_singleton.1 hx];exact hb) hP T hTg hT hY).mono (fun ε w' h=>?_)
 obtain ⟨r,h1,h2,h3,h4,h5,h6⟩:=h
 exact ⟨r,h1,h2,h6.mono (fun _ h=>⟨h,h3,h4.trans (oT_gw n),fun s hs=>(h5 s hs).elim (hN s) (fun q=>(q s List.mem_cons_self).sub (fun _ hb=>Nat.lt_of_lt_of_le hb hNw))⟩)⟩
theorem clsN_any (a:Option Addr) (c:Nat) (l:List bU) (N:Nat) (hn:a.isNone=false) (h9:l.length≤900) (w0:World) (hNw:N≤w0.heap.size) (T:Nat→Prop) (hT:∀ b,T b→b<w0.heap.size) (hf0:bI w0 a c l):Calls prog 41 #[.slice a l.length c] w0 (fun ε w'=>∃ r:bH,ε=.returned (.slice (some ⟨r.n.headD 0,0,none⟩) r.s.length (r.n.tail.headD 0))∧jG w0 w'∧w0.heap.size≤r.n.headD 0∧w'.heap[r.n.headD 0]? = some (.cells (uG r) 37 (0,0))∧dL (fun b=>T b∨b=r.n.headD 0) (fun w=>dN w r.s∧kW.A (uG r) r.s (r.n.tail.headD 0)∧sB r.s=sB l∧sK N r.s) w') :=
 (cls1_any a c l hn h9 w0 hf0 T hT).mono (fun _ _ ⟨r,h1,h2,h3,h4,h5,h6⟩=>⟨r,h1,h2,h3,h4,h6.mono (fun _ h=>⟨h.1,h.2.1,h.2.2,fun s hs=>(h5 s hs).sub (fun _ hb=>Nat.lt_of_lt_of_le hb hNw)⟩)⟩)
def fz (m:List bU) (i:Nat) (M:List bU):Int:=tH (gS m i).b (sB M) 0
section
variable {X : Nat → List UInt8} {E : Nat → Int} {g : Nat} {l : List (List UInt8)}
variable (X g l) in
def NtI (u v:Nat) (b:Bool) (p:List (List UInt8)):Prop:=(b=true∧l.length-usX X g l v<l.length-usX X g l u)∨(b=false∧v=u∧∀ s∈p,fX X g u s<(u:Int))
theorem NtI.start {u:Nat}:NtI X g l u u false []:=Or.inr ⟨rfl,rfl,fun _ h=>absurd h (by simp)⟩
theorem NtI.out {u v:Nat} {b:Bool} (h:NtI X g l u v b l):(b=false→Cl X g l v)∧2*(l.length-usX X g l v)+b.toNat<2*(l.length-usX X g l u)+1:=by
 rcases h with ⟨rfl,h⟩ | ⟨rfl,rfl,h⟩
 ·exact ⟨fun h=>absurd h (by simp),by show _+1<_;omega⟩
 ·exact ⟨fun _=>h,by show _+0<_;omega⟩
end
section
variable {X : Nat → List UInt8} {E : Nat → Int} {g : Nat} {m M : List bU} {i u v : Nat} {b : Bool}
theorem take_sB (h:i<m.length):sB (m.take (i+1))=sB (m.take i)++[(gS m i).b]:=by
 rw [List.take_add_one,List.getElem?_eq_getElem h]
 unfold sB
 rw [List.map_append]
 have:gS m i=m[i]:=by unfold gS;rw [List.getD_eq_getElem?_getD,List.getElem?_eq_getElem h];rfl
 rw [this];rfl
theorem gS_sB (h:i<m.length):(gS m i).b∈sB m:=List.mem_map.2 ⟨_,oH h,rfl⟩
theorem fz_eq (hM:sB M=gX X (v+g)):fX X g v (gS m i).b=fz m i M:=by unfold fX fz;rw [hM]
theorem NtI.stay (h:NtI X g (sB m) u v b (sB (m.take i))) (hi:i<m.length) (hM:sB M=gX X (v+g)) (hz:fz m i M<(v:Int)):NtI X g (sB m) u v b (sB (m.take (i+1))):=by
 rcases h with ⟨rfl,h⟩ | ⟨rfl,rfl,h⟩
 ·exact Or.inl ⟨rfl,h⟩
 ·refine Or.inr ⟨rfl, rfl, fun s hs => ?_⟩
  rw [take_sB hi] at hs
  rcases List.mem_append.1 hs with h1 | h1
  ·exact h s h1
  ·rw [List.mem_singleton.1 h1,fz_eq hM];exact hz
theorem fz_nat (hz:(v:Int)≤fz m i M):fz m i M=(((fz m i M).toNat:Nat):Int)∧v≤(fz m i M).toNat:=by omega
theorem NtI.go (h:NtI X g (sB m) u v b (sB (m.take i))) (hi:i<m.length) (hM:sB M=gX X (v+g)) (hz:(v:Int)≤fz m i M):NtI X g (sB m) u ((fz m i M).toNat+1) true (sB (m.take (i+1))):=by
 obtain ⟨h1,h2⟩:=fz_nat hz
 have h3:=NtS.more (l:=sB m) (gS_sB hi) ((fz_eq (i:=i) hM).trans h1) h2
 rcases h with ⟨rfl,h⟩ | ⟨rfl,rfl,h⟩
 ·exact Or.inl ⟨rfl,Nat.lt_trans h3 h⟩
 ·exact Or.inl ⟨rfl,h3⟩
end
section
variable {B : Base} {w : World} {h : List (Nat × Obj)} {F : World → Prop} {g : Nat}
theorem St.frozW (hS:St B h F w) (k:Nat) {C:Array Value} {e:TypeId} {fr:Nat × Nat} {l:List bU} {c:Nat} (hA:kW.A C l c) (hm:l.length≤140737488351232) (hF:∀ w,F w→dN w l) (hg:B.w.heap.size≤g∨B.ws=[]) (ks:List Nat) {h':List (Nat × Obj)} (hk:h[k]? = some (g,.cells C e fr):=by kernel_rfl) (hh:oW ks (h.eraseIdx k)=h':=by kernel_rfl):St B h' (fun w=>(bI w (some ⟨g,0,none⟩) c l∧mX B.w.heap.size (some ⟨g,0,none⟩))∧F w) w:=by
 have hn0:B.w.heap.size≤g:=by
  rcases (hS.at_ _ (List.mem_of_getElem? hk)).1 with h1 | h1
  ·exact h1
  ·rcases hg with h2 | h2
   ·exact h2
   ·rw [h2] at h1;exact absurd h1 List.not_mem_nil
 refine hS.froz k hk ks hh (fun _ hg hn=>?_)
 have hsub:∀ b,b∈h'.map (·.1)→b∈h.map (·.1):=fun b hb=>((((hh ▸ jX ks _:List.Sublist h' (h.eraseIdx k)).trans (List.eraseIdx_sublist h k)).map _).subset hb)
 exact (bI.mkP hA.le hm ((Rs.of_av hg hA).pers (fun p hp _ hx=>by
  obtain rfl:(⟨g,0,none⟩:Addr)=p:=by simpa using hp
  exact hn hx)) ((hS.facts.sub hsub).mono hF)).mono (fun _ h=>⟨h,mX.some hn0⟩)
end
section
variable (X : Nat → List UInt8) (g : Nat) (l : List (List UInt8))
def NtU (u0 u:Nat):Prop:=u0≤u∧Cl X g l u∧∀ U,u0≤U→Cl X g l U→u≤U
def NtV (u0 u:Nat):Prop:=u0≤u∧∀ U,u0≤U→Cl X g l U→u≤U
variable {X g l}
theorem NtV.start {u0:Nat}:NtV X g l u0 u0:=⟨Nat.le_refl _,fun _ h _=>h⟩
theorem NtV.mxDone {u0 u:Nat} {z:Int} (h:NtV X g l u0 u) (hz:z=mxL (gX X (u+g)) l) (hu:z<(u:Int)):NtU X g l u0 u :=
 ⟨h.1,fun _ hs=>Int.lt_of_le_of_lt (mxL_ge hs) (hz ▸ hu),h.2⟩
theorem NtV.mxNext {u0 u:Nat} {z:Int} (h:NtV X g l u0 u) (hz:z=mxL (gX X (u+g)) l) (hu:(u:Int)≤z):NtV X g l u0 (z.toNat+1):=by
 obtain ⟨s,hs,h1,h2⟩:=NtS.mxGo hz hu
 refine ⟨by have:=h.1;omega,fun U hU hC=>?_⟩
 have h3:=h.2 U hU hC
 have h4:=hC s hs
 rw [xBG h3 (by omega),h1] at h4
 omega
variable (X l) in
def Jn (n:Nat):Prop:=∀ s∈l,∃ j,j<n∧s=X j
theorem ixB_le:∀ {L:List (List UInt8)} {i m:Nat} {s:List UInt8},L[i]? = some s→0≤tH s L m∧tH s L m≤((m+i:Nat):Int)
 | [],i,_,_,h=>by simp at h
 | x :: r, 0, m, s, h => by
   obtain rfl:x=s:=by simpa using h
   unfold tH
   rw [if_pos rfl]
   omega
 | x :: r, i + 1, m, s, h => by
   have h2:r[i]? = some s:=by simpa using h
   have ih:= @ixB_le r i (m+1) s h2
   unfold tH
   split
   ·omega
   ·omega
theorem gX_get {i n:Nat} (h:i<n):(gX X n)[i]? = some (X i):=by
 unfold gX
 rw [List.getElem?_map,List.getElem?_range h];rfl
theorem Jn.cl {n:Nat} (h:Jn X l n):Cl X g l n:=fun s hs=>by
 obtain ⟨j,hj,rfl⟩:=h s hs
 have:=(ixB_le (m:=0) (gX_get (X:=X) (show j<n+g by omega))).2
 unfold fX
 omega
theorem NtV.le {u0 u n:Nat} (h:NtV X g l u0 u) (hJ:Jn X l n) (h0:u0≤n):u≤n:=h.2 n h0 hJ.cl
theorem NtU.le {u0 u n:Nat} (h:NtU X g l u0 u) (hJ:Jn X l n) (h0:u0≤n):u≤n:=h.2.2 n h0 hJ.cl
theorem NtU.uniq {u0 u v:Nat} {m:List (List UInt8)} (h:NtU X g l u0 u) (k:NtU X g m u0 v) (hm:∀ s,s∈m↔s∈l):u=v :=
 Nat.le_antisymm (h.2.2 v k.1 (fun s hs=>k.2.1 s ((hm s).2 hs))) (k.2.2 u h.1 (fun s hs=>h.2.1 s ((hm s).1 hs)))
variable (X g l) in
def NtR (r v:Nat) (p:List (List UInt8)):Prop:=(∀ U,Cl X g l U→v≤U)∧(Cl X g l v∨(r≤usX X g l v∧∀ s∈p,fX X g v s<(v:Int))∨r+1≤usX X g l v)
theorem NtR.start:NtR X g l 0 0 []:=⟨fun _ _=>Nat.zero_le _,Or.inr (Or.inl ⟨Nat.zero_le _,fun _ h=>absurd h (by simp)⟩)⟩
theorem NtR.step {r v w : Nat} {p : List (List UInt8)} {s : List UInt8} (h : NtR X g l r v p) (hs : s ∈ l) (k : NtU X g [s] v w) : NtR X g l r w (p ++ [s]) := by
 have h1:∀ U,Cl X g l U→w≤U:=fun U hU=>k.2.2 U (h.1 U hU) (fun t ht=>by rw [List.mem_singleton.1 ht];exact hU s hs)
 refine ⟨h1,?_⟩
 by_cases hv:fX X g v s<(v:Int)
 ·obtain rfl : w = v := Nat.le_antisymm (k.2.2 v (Nat.le_refl v) (fun t ht => by rw [List.mem_singleton.1 ht]; exact hv)) k.1
  rcases h.2 with h2 | ⟨h2,h3⟩ | h2
  ·exact Or.inl h2
  ·refine Or.inr (Or.inl ⟨h2, fun t ht => ?_⟩)
   rcases List.mem_append.1 ht with h4 | h4
   ·exact h3 t h4
   ·rw [List.mem_singleton.1 h4];exact hv
  ·exact Or.inr (Or.inr h2)
 ·have h2 : fX X g w s < (w : Int) := k.2.1 s List.mem_cons_self
  have h3:fX X g w s=fX X g v s:=xBG k.1 (by omega)
  have h4:usX X g l v+1≤usX X g l w:=filter_lt (fun x _ hp=>by
   have hp:=of_decide_eq_true hp
   rw [xBG k.1 hp.1]
   have:=k.1
   exact decide_eq_true ⟨hp.1,by omega⟩) ⟨s,hs,by
    rw [h3]
    exact decide_eq_true ⟨by omega,by omega⟩,decide_eq_false (by omega)⟩
  rcases h.2 with h5 | ⟨h5,_⟩ | h5
  ·exact absurd (h5 s hs) hv
  ·exact Or.inr (Or.inr (by omega))
  ·exact Or.inr (Or.inr (by omega))
theorem NtR.round {r v:Nat} (h:NtR X g l r v l):NtR X g l (r+1) v []:=by
 refine ⟨h.1,?_⟩
 rcases h.2 with h2 | ⟨_,h2⟩ | h2
 ·exact Or.inl h2
 ·exact Or.inl h2
 ·exact Or.inr (Or.inl ⟨h2,fun _ h=>absurd h (by simp)⟩)
theorem filter_all {α:Type} {p:α→Bool}:∀ {l:List α},l.length≤(l.filter p).length→∀ x∈l,p x=true
 | [],_,_,h=>absurd h (by simp)
 | y :: r, hl, x, hx => by
   have hle:=List.length_filter_le p r
   rw [List.filter_cons] at hl
   cases hy:p y with
   | false=>rw [hy] at hl;simp only [List.length_cons,Bool.false_eq_true,if_false] at hl;omega
   | true =>
     rw [hy] at hl
     simp only [List.length_cons,if_true] at hl
     rcases List.mem_cons.1 hx with rfl | h
     ·exact hy
     ·exact filter_all (by omega) x h
theorem NtR.done {r v:Nat} (h:NtR X g l r v []) (hl:l.length≤r):NtU X g l 0 v:=by
 refine ⟨Nat.zero_le _,?_,fun U _ hU=>h.1 U hU⟩
 have hf:r≤usX X g l v→Cl X g l v:=fun h2 s hs=>by
  have h3:=filter_all (p:=fun s=>decide (0≤fX X g v s∧fX X g v s<(v:Int))) (by unfold usX at h2;omega) s hs
  exact (of_decide_eq_true h3).2
 rcases h.2 with h2 | ⟨h2,_⟩ | h2
 ·exact h2
 ·exact hf h2
 ·exact hf (by omega)
theorem NtR.le {r v n:Nat} {p:List (List UInt8)} (h:NtR X g l r v p) (hJ:Jn X l n):v≤n:=h.1 n hJ.cl
theorem find_stay {u i:Nat} {L A:List (List UInt8)} {s:List UInt8} (hL:L=gX X g) (hA:A=gX X (u+g)) (hi:L[i]? = some s):tH s A 0=tH s L 0∧0≤tH s A 0∧tH s A 0≤(i:Int):=by
 have h:=ixB_le (m:=0) hi
 obtain ⟨B,hB⟩:=gX_ext (X:=X) (show g≤u+g by omega)
 have e:tH s A 0=tH s L 0:=by
  rw [hA,hB,← hL]
  exact ixB_app (by omega)
 rw [e]
 exact ⟨rfl,by omega,by omega⟩
end
theorem kW_A1 (s:bU):kW.A #[s.v] [s] 1:=⟨rfl,rfl,Nat.le_refl _,rfl⟩
theorem src_n {P:Program} {w:World} {tx e':TypeId} (hk:P.underlying tx=some (.slice e')):Src P 1 tx (.slice none 0 0) ([]:List bU).length (kW.r []) w:=Src.ofNil w hk 0
def nb4 (ρ:Nat→bH) (i:Nat):Nat:=(ρ i).n.tail.tail.tail.headD 0
section
variable {X : Nat → List UInt8} {g n : Nat}
theorem Jn.nil:Jn X [] n:=fun _ h=>absurd h (by simp)
theorem Jn.appS {M:List bU} {y:bU} {j:Nat} (h:Jn X (sB M) n) (hj:j<n) (hy:y.b=X j):Jn X (sB (M++[y])) n:=fun s hs=>by
 unfold sB at hs
 rw [List.map_append] at hs
 rcases List.mem_append.1 hs with h1 | h1
 ·exact h s h1
 ·rw [List.map_cons, List.map_nil] at h1
  exact ⟨j,hj,(List.mem_singleton.1 h1).trans hy⟩
theorem Jn.mem {l m:List (List UInt8)} (h:Jn X l n) (hm:∀ s,s∈m↔s∈l):Jn X m n:=fun s hs=>h s ((hm s).1 hs)
theorem Jn.oneS {L:List bU} {i:Nat} (h:Jn X (sB L) n) (hi:i<L.length):Jn X (sB [gS L i]) n:=fun s hs=>by
 have e:s=(gS L i).b:=List.mem_singleton.1 hs
 rw [e];exact h _ (gS_sB hi)
theorem mem_appS {M N:List bU} {y:bU} (h:∀ s,s∈sB N↔s∈sB M):∀ s,s∈sB ([y]++N)↔s∈sB (M++[y]):=fun s=>by
 unfold sB at h ⊢
 rw [List.map_append,List.map_append,List.mem_append,List.mem_append,h s]
 exact Or.comm
theorem NtR.stepS {r v w i:Nat} {L:List bU} (h:NtR X g (sB L) r v (sB (L.take i))) (hi:i<L.length) (k:NtU X g (sB [gS L i]) v w):NtR X g (sB L) r w (sB (L.take (i+1))):=by
 rw [take_sB hi]
 exact h.step (gS_sB hi) k
theorem NtR.roundS {r v i:Nat} {L:List bU} (h:NtR X g (sB L) r v (sB (L.take i))) (hi:L.length≤i):NtR X g (sB L) (r+1) v []:=by
 rw [List.take_of_length_le hi] at h
 exact h.round
theorem find_stayS {u i:Nat} {E A:List bU} (hL:sB E=gX X g) (hA:sB A=gX X (u+g)) (hi:i<E.length):tH (gS E i).b (sB A) 0=tH (gS E i).b (sB E) 0∧0≤tH (gS E i).b (sB A) 0∧tH (gS E i).b (sB A) 0≤(i:Int) :=
 find_stay hL hA (by unfold sB gS;rw [List.getElem?_map,List.getD_eq_getElem?_getD,List.getElem?_eq_getElem hi];rfl)
end
theorem xBS (a:Option Addr) (c:Nat) (k:Ky) (ka:Option Addr) (kc:Nat) (g:Nat) (u0:Nat) (a2:Option Addr) (c2:Nat) (l:List bU) (a3:Option Addr) (c3:Nat) (m:List bU) (hk:k.Ok) (hd:rng k.d) (hg:1≤g∧g≤2) (h3:m.length≤3) (hJ:Jn (oX k) (sB m) 3) (h0:u0≤3) (hl:sB l=gX (oX k) (u0+g)) (ho:y8 (oE k) 5) (w0:World) (hf0:bM w0 a c ([oT k true ka kc])) (hf1:kJ w0) (hf2:fU w0) (hf3:bI w0 a2 c2 l) (hf4:bI w0 a3 c3 m) (T:Nat→Prop) (hT:∀ b,T b→b<w0.heap.size):Calls prog 16 #[.agg #[.slice a ([oT k true ka kc]).length c,vn g,vn u0,.slice a2 l.length c2],.slice a3 m.length c3] w0 (fun ε w'=>jG w0 w'∧∃ r:bH,ε=.returned (.tuple #[.agg #[.slice r.a 1 (r.n.headD 0),.int .i64 ((g:Nat):Int),.int .i64 ((r.n.tail.tail.tail.headD 0:Nat):Int),.slice r.d r.s.length (r.n.tail.tail.headD 0)],.int .i64 0])∧dL T (fun w=>bM w r.a (r.n.headD 0) [oT k true r.b (r.n.tail.headD 0)]∧bI w r.d (r.n.tail.tail.headD 0) r.s∧sB r.s=gX (oX k) (r.n.tail.tail.tail.headD 0+g)∧NtU (oX k) g (sB m) u0 (r.n.tail.tail.tail.headD 0)) w'):=by
 refine Calls.of_ok (n:=75) (F:=(fun w=>bM w a c ([oT k true ka kc])∧kJ w∧fU w∧bI w a2 c2 l∧bI w a3 c3 m∧True)) func16 rfl rfl rfl (by simp) (hf0.pers0.and (hf1.pers0.and (hf2.pers0.and (hf3.pers0.and (hf4.pers0.and cO))))) ?_
 have hll:l.length=u0+g:=sB_gX hl
 have hn2:a2.isNone=false:=(Bool.eq_false_iff.2 (fun hq=>by have e:=congrArg List.length (hf3.isn hq);rw [List.length_nil] at e;omega))
 refine sS f16 3 [1,2,4,5] [] (fun ρ=>[pt (nb ρ 0),pt (nb ρ 1),vi 0]) (fun ρ=>[(0,(nw ρ 0 (cL #[.slice a ([oT k true ka kc]).length c,vn g,vn u0,.slice a2 l.length c2] 31))),(1,(nw ρ 1 (cL #[vz,vi 0,vi 0,vz] 31)))]) (jE [[],[],[]]) (fun ρ1=>sDf f16 [0,1,3,0,8,31,31,127,255,511] 10 [1,2,4,5] [] (fun ρ=>[pt (nb ρ1 0),.slice a ([oT k true ka kc]).length c,.slice (oa ρ 2) ([oT k true (fD ρ 2) (aZ ρ 2)]).length (nb ρ 2),jp (nb ρ1 0) 3,.slice a2 l.length c2,vs (nb ρ 5) (os ρ 5).length (aZ ρ 5),pt (nb ρ1 0),undef,jp (nb ρ1 0) 3,undef]) (fun ρ=>let qa:Value:=.slice (oa ρ 2) ([oT k true (fD ρ 2) (aZ ρ 2)]).length (nb ρ 2);[(5,(nw ρ 5 (cL (oc ρ 5) 37))),(7,(bD 0 (nb ρ1 0) (cL #[qa,vn g,vn u0,.slice a2 l.length c2] 31))),(9,(bD 0 (nb ρ1 0) (cL #[qa,vn g,vn u0,vs (nb ρ 5) (os ρ 5).length (aZ ρ 5)] 31)))]) (fun ρ=>[(2,fun w=>(bM w (oa ρ 2) (nb ρ 2) ([oT k true (fD ρ 2) (aZ ρ 2)])∧mX w0.heap.size (oa ρ 2)∧mX w0.heap.size (fD ρ 2))),(5,fun w=>(dN w (os ρ 5)∧kW.A (oc ρ 5) (os ρ 5) (aZ ρ 5)∧sB (os ρ 5)=sB l∧sK w0.heap.size (os ρ 5)))]) (fun ρ=>(fun w=>bM w a c ([oT k true ka kc])∧kJ w∧fU w∧bI w a2 c2 l∧bI w a3 c3 m∧bM w (oa ρ 2) (nb ρ 2) ([oT k true (fD ρ 2) (aZ ρ 2)])∧dN w (os ρ 5)∧True)) (fun ρ=>(mX w0.heap.size (oa ρ 2)∧mX w0.heap.size (fD ρ 2))∧(kW.A (oc ρ 5) (os ρ 5) (aZ ρ 5)∧sB (os ρ 5)=sB l∧sK w0.heap.size (os ρ 5))) (fun _ _ hF hf=>⟨⟨hF.1,hF.2.1,hF.2.2.1,hF.2.2.2.1,hF.2.2.2.2.1,(hf 2).1,(hf 5).1,trivial⟩,⟨(hf 2).2,(hf 5).2⟩⟩) (cR [[],[0]]<|cX (qT1 (fun _ τ w hG=>xBP a c k true ka kc hk hd w hG.fn.1 τ hG.lt))<|cR [[],[0]]<|cX (qSN (fun _ τ w hG=>clsN_any a2 c2 l w0.heap.size hn2 om w hG.below.size τ hG.lt hG.fn.2.2.2.1))<|jE [[],[0],[],[0]]) (fun ρ2 ⟨ap2_2,ap2_5⟩=>sS f16 4 [1,2,4,5,6] [] (fun _=>[pt (nb ρ1 0),.slice (oa ρ2 2) ([oT k true (fD ρ2 2) (aZ ρ2 2)]).length (nb ρ2 2),vT,vT]) (fun _=>[]) (cR [[],[0]]<|cX (lN _ 32 (fun _=> #[.slice (oa ρ2 2) ([oT k true (fD ρ2 2) (aZ ρ2 2)]).length (nb ρ2 2)]) (fun _=>vT) (fun _ _=>(by kernel_rfl)) (fun _=>(by kernel_rfl)) (fun _ _=>(by kernel_rfl)) (fun _ _=>trivial) (fun _ _ w hG=>(by as_aux_lemma=>(have hcall:=wO (oa ρ2 2) (nb ρ2 2) ([oT k true (fD ρ2 2) (aZ ρ2 2)]) w hG.fn.2.2.2.2.2.1;rw [oT_rg] at hcall;exact hcall))))<|jE [[]]) (fun _=>aI ?_)))
 refine oLF (σ:=(Nat × Nat × (Array Value) × (List bU) × Nat)) (fun s=>match s with |  ⟨_,_,_,M,_⟩=>(fun w=>bM w (oa ρ2 2) (nb ρ2 2) ([oT k true (fD ρ2 2) (aZ ρ2 2)])∧kJ w∧fU w∧bI w a3 c3 m∧dN w M∧True)) (fun s=>match s with |  ⟨_,_,_,_,_⟩=>[(1,(.slice a3 m.length c3)),(2,(pt (nb ρ1 0))),(4,(pt (nb ρ1 1))),(6,vT)]) (fun s=>match s with |  ⟨u,q,C,M,κ⟩=>[(nb ρ1 0,(cL #[.slice (oa ρ2 2) ([oT k true (fD ρ2 2) (aZ ρ2 2)]).length (nb ρ2 2),vn g,vn u,vs q M.length κ] 31)),(nb ρ1 1,(cL #[vz,vi 0,vi 0,vz] 31)),(q,(cL C 37))]) (fun s=>match s with |  ⟨u,_,_,_,_⟩=>(sB m).length-usX (oX k) g (sB m) u)
  (fun s=>match s with |  ⟨u,_,C,M,κ⟩=>(NtV (oX k) g (sB m) u0 u)∧(sB M=gX (oX k) (u+g))∧(M.length=u+g)∧(kW.A C M κ)∧(sK w0.heap.size M)∧(u≤3)) ((u0,nb ρ2 5,oc ρ2 5,os ρ2 5,aZ ρ2 5)) (⟨NtV.start,ap2_5.2.1.trans hl,sB_gX (ap2_5.2.1.trans hl),ap2_5.1,ap2_5.2.2,h0⟩) (fun w hF=>⟨hF.2.2.2.2.2.1,hF.2.1,hF.2.2.1,hF.2.2.2.2.1,hF.2.2.2.2.2.2.1,trivial⟩) [] ?_
 rintro ⟨u,q,C,M,κ⟩
 rintro ⟨hNt,hM,hlm,hA,hN,hu⟩
 refine aI (jJ f16 1 [1,2,4,6,7] [vi (-1)] (aB (jJ f16 3 [1,2,4,6,7,23,24,25] [.slice a3 m.length c3,vn m.length,vi 0] (aI ?_))))
 refine oL (σ:=Nat × Int) (fun ⟨i,z⟩=>[(1,(.slice a3 m.length c3)),(2,(pt (nb ρ1 0))),(4,(pt (nb ρ1 1))),(6,vT),(7,(vi z)),(23,(.slice a3 m.length c3)),(24,(vn m.length)),(25,(vn i))]) (fun ⟨_,_⟩=>[(nb ρ1 0,(cL #[.slice (oa ρ2 2) ([oT k true (fD ρ2 2) (aZ ρ2 2)]).length (nb ρ2 2),vn g,vn u,vs q M.length κ] 31)),(nb ρ1 1,(cL #[vz,vi 0,vi 0,vz] 31)),(q,(cL C 37))]) (fun ⟨i,_⟩=>m.length-i)
  (fun ⟨i,z⟩=>(i≤m.length)∧(z=mxL (sB M) (sB (m.take i)))) (0,-1) (⟨Nat.zero_le _,rfl⟩) [] ?_
 rintro ⟨i,z⟩ ⟨hi,hz⟩
 refine jJ f16 1 [1,2,4,6,7,23,24,25,26] [.bool (decide (((i:Nat):Int)<((m.length:Nat):Int)))] (aB (oC (decide (((i:Nat):Int)<((m.length:Nat):Int))) (fun hb1=>?_) (fun hb1=>?_)))
 ·rw [hb1]
  have:=yT hb1
  refine aG (aA (aB (aI (sS f16 3 [1,2,4,6,7,9,23,24,25] [] (fun _=>let qa:Value:=.slice (gS m i).a (gS m i).b.length (gS m i).c;[.pointer (fK a3 i),qa,qa]) (fun _=>[]) (cX (qF (fun _ _ _ hG=>bI.idx (k:=.i64) underlying29 sizeOf37 hG.fn.2.2.2.1 rfl (show ((i:Nat):Int)=((i:Nat):Int) from rfl) (show i<m.length from om)))<|cX (qF (fun _ _ _ hG=>bI.ld isAgg37 hG.fn.2.2.2.1 (show i<m.length from om)))<|jE [[]]) (fun _=>rS f16 6 [1,2,4,6,7,23,24,25] [] (fun _=>let qa:=vi (mxI z (tH (gS m i).b (sB M) 0));[vi z,.agg #[.slice (oa ρ2 2) ([oT k true (fD ρ2 2) (aZ ρ2 2)]).length (nb ρ2 2),vn g,vn u,vs q M.length κ],.slice (gS m i).a (gS m i).b.length (gS m i).c,vi (tH (gS m i).b (sB M) 0),qa,qa]) (fun _=>[]) (cR [[],[0],[]]<|cX (qC (fun _ _ w hG=>xAG (.slice (oa ρ2 2) ([oT k true (fD ρ2 2) (aZ ρ2 2)]).length (nb ρ2 2)) ((g:Nat):Int) ((u:Nat):Int) (some ⟨q,0,none⟩) κ M (gS m i).a (gS m i).c (gS m i).b w (bI.of_A (hG.kn (g:=q) (o:=(cL C 37)) 2) hA om hG.fn.2.2.2.2.1) (hG.fn.2.2.2.1.sub _ (oH (show i<m.length from om)))))<|jE [[],[]]) (fun _=>aJ (aA (rS f16 2 [1,2,4,6,7,23,24,25] [] (fun _=>[vn (i+1),vn (i+1)]) (fun _=>[]) (jW (fun ρ=>(((i:Nat):Int)+1)) (fun _=>(i+1)) (fun _=>(aW i 1 om))<|jE [[]]) (fun _=>?_)))))))))
  exact mN (i+1,mxI z (tH (gS m i).b (sB M) 0)) (by show m.length-(i+1)<m.length-i;omega) (⟨om,by rw [mxL_next (show i<m.length from om),← hz]⟩) []
 rw [hb1]
 have:=yF hb1
 refine bF (aN (aN (aT (aA (aB (xAN (p:=z=mxL (gX (oX k) (u+g)) (sB m)) (fun w hF=>(by rw [hz,hM,List.take_of_length_le (show m.length≤i from om)])) (fun hz2=>xAN (p:=z<((u+g:Nat):Int)) (fun w hF=>(by have e:= @mxL_lt (gX (oX k) (u+g)) (sB (m.take i));rw [gX_len,← hM,← hz] at e;exact e)) (fun hz3=>xAN (p:=z<(u:Int)∨z.toNat+1≤3) (fun w hF=>(if hq:z<(u:Int) then Or.inl hq else Or.inr (NtV.le (hNt.mxNext hz2 (Int.not_lt.1 hq)) hJ h0))) (fun hz4=>?_)))))))))
 rcases Bool.eq_false_or_eq_true (decide (z<0)) with hb2 | hb2
 ·refine sS f16 8 [1,2,4,6,7,42] [] (fun _=>[vi z,vT,vT,undef,undef,undef,undef,vT]) (fun _=>[]) (cR [[]]<|cA (fun _=>vT) (fun _=>congrArg Value.bool hb2)<|jE [[],[],[],[],[],[]]) (fun _=>oY (sS f16 3 [1,2,4,5,6,7] [] (fun _=>[.agg #[.slice (oa ρ2 2) ([oT k true (fD ρ2 2) (aZ ρ2 2)]).length (nb ρ2 2),vn g,vn u,vs q M.length κ],undef,vi 0]) (fun _=>[(1,(bD 1 (nb ρ1 1) (cL #[.slice (oa ρ2 2) ([oT k true (fD ρ2 2) (aZ ρ2 2)]).length (nb ρ2 2),vn g,vn u,vs q M.length κ] 31)))]) (jE [[0],[1],[]]) (fun _=>aF (aC (aP (aC (aP (mD [(1,(.slice a3 m.length c3)),(2,(pt (nb ρ1 0))),(4,(pt (nb ρ1 1))),(5,(vi 0)),(6,vT),(7,(vi z))] [(nb ρ1 0,(cL #[.slice (oa ρ2 2) ([oT k true (fD ρ2 2) (aZ ρ2 2)]).length (nb ρ2 2),vn g,vn u,vs q M.length κ] 31)),(nb ρ1 1,(cL #[.slice (oa ρ2 2) ([oT k true (fD ρ2 2) (aZ ρ2 2)]).length (nb ρ2 2),vn g,vn u,vs q M.length κ] 31)),(q,(cL C 37))] ?_))))))))
  exact mR (v:=(.tuple #[.agg #[.slice (oa ρ2 2) ([oT k true (fD ρ2 2) (aZ ρ2 2)]).length (nb ρ2 2),vn g,vn u,vs q M.length κ],vi 0])) (ps:=[1,1,1,1]) (fun _ hS=>⟨hS.bel,{ n:=[nb ρ2 2,aZ ρ2 2,κ,u],a:=oa ρ2 2,b:=fD ρ2 2,d:=some ⟨q,0,none⟩,s:=M},rfl,((bM.oneP hS.facts.now.1 ap2_2.1 ap2_2.2 hT).and (bI.fin (hS.newb (.tail _ (.tail _ (.head _)))).2 hA (oA (yT hb2)) hT (hS.newb (.tail _ (.tail _ (.head _)))).1 (dN.mkA hS.facts.now.2.2.2.2.1 (fun s hs=>(hN s hs).sub hT)))).mono (fun _ h=>⟨h.1,h.2,hM,hNt.mxDone hz2 (oA (yT hb2))⟩)⟩)
 refine sS f16 8 [1,2,4,6,7,42] [] (fun _=>let qa:Value:=.bool (decide (z<((u:Nat):Int)));[vi z,vF,vF,vi z,jp (nb ρ1 0) 2,vn u,qa,qa]) (fun _=>[]) (cR [[]]<|cA (fun _=>vF) (fun _=>congrArg Value.bool hb2)<|jE [[],[],[],[0],[],[]]) (fun _=>oC (decide (z<((u:Nat):Int))) (fun hb3=>?_) (fun hb3=>?_))
 ·rw [hb3]
  refine sS f16 3 [1,2,4,5,6,7] [] (fun _=>[.agg #[.slice (oa ρ2 2) ([oT k true (fD ρ2 2) (aZ ρ2 2)]).length (nb ρ2 2),vn g,vn u,vs q M.length κ],undef,vi 0]) (fun _=>[(1,(bD 1 (nb ρ1 1) (cL #[.slice (oa ρ2 2) ([oT k true (fD ρ2 2) (aZ ρ2 2)]).length (nb ρ2 2),vn g,vn u,vs q M.length κ] 31)))]) (jE [[0],[1],[]]) (fun _=>aF (aC (aP (aC (aP (mD [(1,(.slice a3 m.length c3)),(2,(pt (nb ρ1 0))),(4,(pt (nb ρ1 1))),(5,(vi 0)),(6,vT),(7,(vi z))] [(nb ρ1 0,(cL #[.slice (oa ρ2 2) ([oT k true (fD ρ2 2) (aZ ρ2 2)]).length (nb ρ2 2),vn g,vn u,vs q M.length κ] 31)),(nb ρ1 1,(cL #[.slice (oa ρ2 2) ([oT k true (fD ρ2 2) (aZ ρ2 2)]).length (nb ρ2 2),vn g,vn u,vs q M.length κ] 31)),(q,(cL C 37))] ?_))))))
  exact mR (v:=(.tuple #[.agg #[.slice (oa ρ2 2) ([oT k true (fD ρ2 2) (aZ ρ2 2)]).length (nb ρ2 2),vn g,vn u,vs q M.length κ],vi 0])) (ps:=[1,1,1,1]) (fun _ hS=>⟨hS.bel,{ n:=[nb ρ2 2,aZ ρ2 2,κ,u],a:=oa ρ2 2,b:=fD ρ2 2,d:=some ⟨q,0,none⟩,s:=M},rfl,((bM.oneP hS.facts.now.1 ap2_2.1 ap2_2.2 hT).and (bI.fin (hS.newb (.tail _ (.tail _ (.head _)))).2 hA (oB (yF hb2) (yT hb3)) hT (hS.newb (.tail _ (.tail _ (.head _)))).1 (dN.mkA hS.facts.now.2.2.2.2.1 (fun s hs=>(hN s hs).sub hT)))).mono (fun _ h=>⟨h.1,h.2,hM,hNt.mxDone hz2 (oB (yF hb2) (yT hb3))⟩)⟩)
 rw [hb3]
 have:=yF hb3
 refine aG (aA (sS f16 4 [1,2,4,6] [] (fun _=>[vi z,vn (z.toNat+1),jp (nb ρ1 0) 2,undef]) (fun _=>[(3,(bD 0 (nb ρ1 0) (cL #[.slice (oa ρ2 2) ([oT k true (fD ρ2 2) (aZ ρ2 2)]).length (nb ρ2 2),vn g,vn (z.toNat+1),vs q M.length κ] 31)))]) (cR [[]]<|jW (fun ρ=>(z+1)) (fun _=>(z.toNat+1)) (fun _=>((gZ (oA (yF hb2))).trans (oA (yF hb2))))<|jE [[],[0]]) (fun _=>aB (sS f16 6 [1,2,4,6,52] [] (fun _=>[jp (nb ρ1 0) 1,vn g,jp (nb ρ1 0) 2,vn (z.toNat+1),vi (1000-((z.toNat+1:Nat):Int)),vF]) (fun _=>[]) (cR [[],[0],[],[0]]<|jU (fun ρ=>(1000-((z.toNat+1:Nat):Int))) (fun _=>(1000-((z.toNat+1:Nat):Int))) (fun _=>(gZ (oA (yF hb2))))<|jQ (fun ρ=>(decide ((1000-((z.toNat+1:Nat):Int))<((g:Nat):Int)))) false (fun _=>(decide_eq_false (oA (yF hb2))))<|cN) (fun _=>oN (aG (aA (aB (jJ f16 2 [1,2,4,6,55] [vT,vF] (oN (aG (aA (iZ f16 15 [1,2,4,6,10,11] [] (fun ρ=>let qa:=vs (nb ρ 9) (os ρ 9).length (aZ ρ 9);[jp (nb ρ1 0) 3,vs q M.length κ,pt (nb ρ1 0),.slice (oa ρ2 2) ([oT k true (fD ρ2 2) (aZ ρ2 2)]).length (nb ρ2 2),jp (nb ρ1 0) 2,vn (z.toNat+1),jp (nb ρ1 0) 1,vn g,vn ((z.toNat+1)+g),.tuple #[qa,vi 0],.tuple #[qa,vi 0],qa,vi 0,qa,vi 0]) (fun ρ=>[(9,(bD 2 (nb ρ 9) (cL (oc ρ 9) 37)))]) (fun ρ=>[(9,fun w=>(dN w (os ρ 9)∧kW.A (oc ρ 9) (os ρ 9) (aZ ρ 9)∧sB (os ρ 9)=gX (oX k) ((z.toNat+1)+g)∧sK w0.heap.size (os ρ 9)))]) (fun ρ=>(fun w=>bM w (oa ρ2 2) (nb ρ2 2) ([oT k true (fD ρ2 2) (aZ ρ2 2)])∧kJ w∧fU w∧bI w a3 c3 m∧dN w M∧dN w (os ρ 9)∧True)) (fun ρ=>(kW.A (oc ρ 9) (os ρ 9) (aZ ρ 9)∧sB (os ρ 9)=gX (oX k) ((z.toNat+1)+g)∧sK w0.heap.size (os ρ 9))) (fun _ _ hF hf=>⟨⟨hF.1,hF.2.1,hF.2.2.1,hF.2.2.2.1,hF.2.2.2.2.1,(hf 9).1,trivial⟩,(hf 9).2⟩) (cR [[],[0],[],[0],[],[0],[],[0]]<|jW (fun ρ=>(((z.toNat+1:Nat):Int)+((g:Nat):Int))) (fun _=>((z.toNat+1)+g)) (fun _=>(aW (z.toNat+1) g (oA (yF hb2))))<|cX (qMv 2 (fun _ τ w hG hg hTg=>wgrow1_any (oa ρ2 2) (nb ρ2 2) k (fD ρ2 2) (aZ ρ2 2) q κ C M ((z.toNat+1)+g) w0.heap.size (oA (yF hb2)) hA (by rw [hlm];exact hM) (oA (yF hb2)) (xAH.2 (ho.le (oA (yF hb2)))) hN w hG.below.size hg (hG.pK [2] (fun _ hF=>⟨hF.1,hF.2.1,hF.2.2.1,hF.2.2.2.2.1,trivial⟩)) τ hTg hG.lt (hG.facts0.mono (fun _ hF=>hF.2.2.2.2.1))))<|jE [[],[],[],[],[]]) (fun ρ17 ap17_9=>aB (jJ f16 2 [1,2,4,6,10,11,70] [vi 0,vF] (lK [(1,(.slice a3 m.length c3)),(2,(pt (nb ρ1 0))),(4,(pt (nb ρ1 1))),(6,vT),(10,(vs (nb ρ17 9) (os ρ17 9).length (aZ ρ17 9))),(11,(vi 0)),(70,vF)] [(nb ρ1 0,(cL #[.slice (oa ρ2 2) ([oT k true (fD ρ2 2) (aZ ρ2 2)]).length (nb ρ2 2),vn g,vn (z.toNat+1),vs q M.length κ] 31)),(nb ρ1 1,(cL #[vz,vi 0,vi 0,vz] 31)),(nb ρ17 9,(cL (oc ρ17 9) 37))] (oN (aG (aA (rS f16 3 [1,2,4,6] [] (fun _=>[vs (nb ρ17 9) (os ρ17 9).length (aZ ρ17 9),jp (nb ρ1 0) 3,undef]) (fun _=>[(2,(bD 0 (nb ρ1 0) (cL #[.slice (oa ρ2 2) ([oT k true (fD ρ2 2) (aZ ρ2 2)]).length (nb ρ2 2),vn g,vn (z.toNat+1),vs (nb ρ17 9) (os ρ17 9).length (aZ ρ17 9)] 31)))]) (jE [[],[],[0]]) (fun _=>aJ (mD [(1,(.slice a3 m.length c3)),(2,(pt (nb ρ1 0))),(4,(pt (nb ρ1 1))),(6,vT)] [(nb ρ1 0,(cL #[.slice (oa ρ2 2) ([oT k true (fD ρ2 2) (aZ ρ2 2)]).length (nb ρ2 2),vn g,vn (z.toNat+1),vs (nb ρ17 9) (os ρ17 9).length (aZ ρ17 9)] 31)),(nb ρ1 1,(cL #[vz,vi 0,vi 0,vz] 31)),(nb ρ17 9,(cL (oc ρ17 9) 37))] ?_))))))))))))))))))))))
 exact mNF ((z.toNat+1,nb ρ17 9,oc ρ17 9,os ρ17 9,aZ ρ17 9)) (by exact NtS.mxMore hz2 (oA (yF hb2))) (⟨hNt.mxNext hz2 (oA (yF hb2)),ap17_9.2.1,sB_gX ap17_9.2.1,ap17_9.1,ap17_9.2.2,NtV.le (hNt.mxNext hz2 (oA (yF hb2))) hJ h0⟩) (fun w hS=>hS.weaken (fun w hF=>⟨hF.1,hF.2.1,hF.2.2.1,hF.2.2.2.1,hF.2.2.2.2.2.1,trivial⟩))
theorem wnewR_any (a:Option Addr) (c:Nat) (k:Ky) (ka:Option Addr) (kc:Nat) (g:Nat) (hk:k.Ok) (hd:rng k.d) (hv:xW [oT k true ka kc]=true) (hg:1≤g∧g≤2) (ho:y8 (oE k) g) (w0:World) (hf0:bM w0 a c ([oT k true ka kc])) (hf1:kJ w0) (hf2:fU w0) (T:Nat→Prop) (hT:∀ b,T b→b<w0.heap.size):Calls prog 11 #[.slice a ([oT k true ka kc]).length c,vn g] w0 (fun ε w'=>jG w0 w'∧∃ r:bH,ε=.returned (.tuple #[.agg #[.slice r.a 1 (r.n.headD 0),.int .i64 ((g:Nat):Int),.int .i64 0,.slice r.d r.s.length (r.n.tail.tail.headD 0)],.int .i64 0])∧dL T (fun w=>bM w r.a (r.n.headD 0) [oT k true r.b (r.n.tail.headD 0)]∧bI w r.d (r.n.tail.tail.headD 0) r.s∧sB r.s=gX (oX k) g) w'):=by
 refine Calls.of_ok (n:=38) (F:=(fun w=>bM w a c ([oT k true ka kc])∧kJ w∧fU w∧True)) func11 rfl rfl rfl (by simp) (hf0.pers0.and (hf1.pers0.and (hf2.pers0.and cO))) (sS f11 2 [0,1,4,5] [] (fun ρ=>[pt (nb ρ 0),vi 0]) (fun ρ=>[(0,(nw ρ 0 (cL #[vz,vi 0,vi 0,vz] 31)))]) (jE [[],[]]) (fun ρ1=>aB (sS f11 3 [0,1,4,5,11] [] (fun _=>[.slice a ([oT k true ka kc]).length c,vT,vF]) (fun _=>[]) (cR [[]]<|cX (lN _ 31 (fun _=> #[.slice a ([oT k true ka kc]).length c]) (fun _=>vT) (fun _ _=>(by kernel_rfl)) (fun _=>(by kernel_rfl)) (fun _ _=>(by kernel_rfl)) (fun _ _=>trivial) (fun _ _ w hG=>(by as_aux_lemma=>(have hcall:=xBT a c ([oT k true ka kc]) w hG.fn.1;rw [hv] at hcall;exact hcall))))<|jE [[]]) (fun _=>oN (aG (aA (aB (sS f11 6 [0,1,4,5,18] [] (fun _=>[vn g,vF,vF,vn g,vF,vF]) (fun _=>[]) (cR [[]]<|jQ (fun ρ=>(decide (((g:Nat):Int)<1))) false (fun _=>(decide_eq_false om))<|cR [[],[]]<|jQ (fun ρ=>(decide (20<((g:Nat):Int)))) false (fun _=>(decide_eq_false om))<|jE [[]]) (fun _=>oN (aG (aA (jJ f11 1 [0,1,4,5,6] [vi 1] (aB (sS f11 2 [0,1,4,5,6,21] [] (fun _=>[.slice a ([oT k true ka kc]).length c,vT]) (fun _=>[]) (cR [[]]<|cX (lN _ 32 (fun _=> #[.slice a ([oT k true ka kc]).length c]) (fun _=>vT) (fun _ _=>(by kernel_rfl)) (fun _=>(by kernel_rfl)) (fun _ _=>(by kernel_rfl)) (fun _ _=>trivial) (fun _ _ w hG=>(by as_aux_lemma=>(have hcall:=wO a c ([oT k true ka kc]) w hG.fn.1;rw [oT_rg] at hcall;exact hcall))))<|cN) (fun _=>oY (jL f11 2 [0,1,4,5,6] [] [vn g,vn g] [[],[]] (aA (iZ f11 8 [0,1,4,5,7,8] [] (fun ρ=>let qa:Value:=.slice (oa ρ 2) (os ρ 2).length (nb ρ 2);[.slice a ([oT k true ka kc]).length c,vn g,.tuple #[qa,vi 0],.tuple #[qa,vi 0],qa,vi 0,qa,vi 0]) (fun _=>[]) (fun ρ=>[(2,fun w=>(bI w (oa ρ 2) (nb ρ 2) (os ρ 2)∧sB (os ρ 2)=gwB ([oT k true ka kc]) g∧sK w0.heap.size (os ρ 2)∧mX w0.heap.size (oa ρ 2)))]) (fun ρ=>(fun w=>bM w a c ([oT k true ka kc])∧kJ w∧fU w∧bI w (oa ρ 2) (nb ρ 2) (os ρ 2)∧True)) (fun ρ=>(sB (os ρ 2)=gwB ([oT k true ka kc]) g∧sK w0.heap.size (os ρ 2)∧mX w0.heap.size (oa ρ 2))) (fun _ _ hF hf=>⟨⟨hF.1,hF.2.1,hF.2.2.1,(hf 2).1,trivial⟩,(hf 2).2⟩) (cR [[],[]]<|cX (qE (fun _ τ w hG=>wgrow_any a c ([oT k true ka kc]) g oT_kd om (fun i hi=>(oT_oE i).trans (ho i hi)) w hG.fn.1 hG.fn.2.1 hG.fn.2.2.1 τ hG.lt))<|jE [[],[],[],[],[]]) (fun ρ7 ap7_2=>lK [(0,(.slice a ([oT k true ka kc]).length c)),(1,(vn g)),(4,(pt (nb ρ1 0))),(5,(vi 0)),(7,(.slice (oa ρ7 2) (os ρ7 2).length (nb ρ7 2))),(8,(vi 0))] [(nb ρ1 0,(cL #[vz,vi 0,vi 0,vz] 31))] (aB (jJ f11 2 [0,1,4,5,7,8,30] [vi 0,vF] (oN (aG (aA ?_))))))))))))))))))))))))
 refine iZ f11 7 [4,5] [] (fun ρ=>let qa:Value:=.slice (oa ρ 1) ([oT k true (fD ρ 1) (aZ ρ 1)]).length (nb ρ 1);let qb:Value:=.slice (oa ρ7 2) (os ρ7 2).length (nb ρ7 2);[.slice a ([oT k true ka kc]).length c,qa,vn g,qb,.agg #[qa,vn g,vi 0,qb],undef,vi 0]) (fun ρ=>[(5,(bD 0 (nb ρ1 0) (cL #[.slice (oa ρ 1) ([oT k true (fD ρ 1) (aZ ρ 1)]).length (nb ρ 1),vn g,vi 0,.slice (oa ρ7 2) (os ρ7 2).length (nb ρ7 2)] 31)))]) (fun ρ=>[(1,fun w=>(bM w (oa ρ 1) (nb ρ 1) ([oT k true (fD ρ 1) (aZ ρ 1)])∧mX w0.heap.size (oa ρ 1)∧mX w0.heap.size (fD ρ 1)))]) (fun ρ=>(fun w=>bM w a c ([oT k true ka kc])∧kJ w∧fU w∧bI w (oa ρ7 2) (nb ρ7 2) (os ρ7 2)∧bM w (oa ρ 1) (nb ρ 1) ([oT k true (fD ρ 1) (aZ ρ 1)])∧True)) (fun ρ=>(mX w0.heap.size (oa ρ 1)∧mX w0.heap.size (fD ρ 1))) (fun _ _ hF hf=>⟨⟨hF.1,hF.2.1,hF.2.2.1,hF.2.2.2.1,(hf 1).1,trivial⟩,(hf 1).2⟩) (cR [[]]<|cX (qT1 (fun _ τ w hG=>xBP a c k true ka kc hk hd w hG.fn.1 τ hG.lt))<|jE [[],[],[],[0],[]]) (fun ρ9 ap9_1=>aF (mD [(4,(pt (nb ρ1 0))),(5,(vi 0))] [(nb ρ1 0,(cL #[.slice (oa ρ9 1) ([oT k true (fD ρ9 1) (aZ ρ9 1)]).length (nb ρ9 1),vn g,vi 0,.slice (oa ρ7 2) (os ρ7 2).length (nb ρ7 2)] 31))] ?_))
 exact mR (v:=(.tuple #[.agg #[.slice (oa ρ9 1) ([oT k true (fD ρ9 1) (aZ ρ9 1)]).length (nb ρ9 1),vn g,vi 0,.slice (oa ρ7 2) (os ρ7 2).length (nb ρ7 2)],vi 0])) (fun _ hS=>⟨hS.bel,{ n:=[nb ρ9 1,aZ ρ9 1,nb ρ7 2],a:=oa ρ9 1,b:=fD ρ9 1,d:=oa ρ7 2,s:=os ρ7 2},rfl,((bM.oneP hS.facts.now.2.2.2.2.1 ap9_1.1 ap9_1.2 hT).and (bI.newP hS.facts.now.2.2.2.1 ap7_2.2.2 ap7_2.2.1 hT)).mono (fun _ h=>⟨h.1,h.2,ap7_2.1.trans (oT_gw g)⟩)⟩)
theorem xAY (a:Option Addr) (c:Nat) (B:List UInt8) (a2:Option Addr) (c2:Nat) (S:List UInt8) (w0:World) (hf0:Bs w0 a c B) (hf1:Bs w0 a2 c2 S):Calls prog 20 #[.slice a B.length c,.slice a2 S.length c2] w0 (jR (.bool (decide (B=S))) w0):=by
 refine Calls.of_ok (n:=10) (F:=(fun w=>Bs w a c B∧Bs w a2 c2 S∧True)) func20 rfl rfl rfl (by simp) (hf0.pers0.and (hf1.pers0.and cO)) (jJ f20 1 [0,1,4] [vF] (sS f20 6 [4] [] (fun _=>[.slice a B.length c,.string (gY B),.slice a2 S.length c2,.string (gY S),.bool (decide (B=S)),.bool (decide (B=S))]) (fun _=>[]) (cR [[]]<|cX (jF (fun _=>convert 37 9 (.slice a B.length c)) (fun _=>(.string (gY B))) (fun _ _ _ hG=>xAX (xs:=B) underlying37 underlying5 underlying9 hG.fn.1 rfl) (fun _ _ _ _=>cO))<|cR [[]]<|cX (jF (fun _=>convert 37 9 (.slice a2 S.length c2)) (fun _=>(.string (gY S))) (fun _ _ _ hG=>xAX (xs:=S) underlying37 underlying5 underlying9 hG.fn.2.1 rfl) (fun _ _ _ _=>cO))<|cB .eql 9 (fun _ w=>eql_str B S w)<|jE [[]]) (fun _=>aF ?_)))
 exact mR (v:=(.bool (decide (B=S)))) (fun _ hS=>⟨rfl,hS.bel⟩)
set_option maxHeartbeats 800000 in
theorem rsameT_any (a:Option Addr) (c:Nat) (k:Ky) (wd:Bool) (ka:Option Addr) (kc:Nat) (a2:Option Addr) (c2:Nat) (kb:Option Addr) (kd:Nat) (_hk:k.Ok) (_hd:rng k.d) (w0:World) (hf0:bM w0 a c ([oT k wd ka kc])) (hf1:bM w0 a2 c2 ([oT k wd kb kd])):Calls prog 38 #[.slice a ([oT k wd ka kc]).length c,.slice a2 ([oT k wd kb kd]).length c2] w0 (jR vT w0):=by
 refine Calls.of_ok (n:=122) (F:=(fun w=>bM w a c ([oT k wd ka kc])∧bM w a2 c2 ([oT k wd kb kd])∧True)) func38 rfl rfl rfl (by simp) (hf0.pers0.and (hf1.pers0.and cO)) ?_
 have ho:mP ([oT k wd ka kc]):=hf0.oks
 refine jJ f38 1 [0,1,4] [vF] (aB (jJ f38 5 [0,1,4,16] [.slice a ([oT k wd ka kc]).length c,vi 1,.slice a2 ([oT k wd kb kd]).length c2,vi 1,vF] (oN (aG (aA (aB (jJ f38 1 [0,1,4,5] [vi 0] (aI (jY 2 (dI (aB (jJ f38 4 [0,1,4,5,17,18,19,20] [vi 0,.slice a ([oT k wd ka kc]).length c,vi 1,vT] (oY (aG (aA (aB (aI (sD f38 [0,0,3,7,0,0,48,112,0,0,783,2047] 12 [0,1,4,5,6,7,17,18,19,20,23,24,25,26,27,28,29,30] [] (fun ρ=>[.slice a ([oT k wd ka kc]).length c,vi 0,.pointer (fK a (0*36)),.agg (bW.row (gT ([oT k wd ka kc]) 0)),.slice a2 ([oT k wd kb kd]).length c2,vi 0,.pointer (fK a2 (0*36)),.agg (bW.row (gT ([oT k wd kb kd]) 0)),pt (nb ρ 8),pt (nb ρ 9),undef,undef]) (fun ρ=>[(8,(nw ρ 8 (cL (iC 0 0 0 0 vz) 60))),(9,(nw ρ 9 (cL (iC 0 0 0 0 vz) 60))),(10,(bD 64 (nb ρ 8) (cL (bW.row (gT ([oT k wd ka kc]) 0)) 60))),(11,(bD 72 (nb ρ 9) (cL (bW.row (gT ([oT k wd kb kd]) 0)) 60)))]) (cR [[],[]]<|cX (qF (fun _ _ _ hG=>bM.idx (k:=.i64) underlying24 sizeOf60 hG.fn.1 rfl (show (0:Int)=((0:Nat):Int) from rfl) (show 0<([oT k wd ka kc]).length from Nat.le_of_ble_eq_true rfl)))<|cX (qF (fun _ _ _ hG=>bM.ldA (i:=0) isAgg60 sizeOf60 hG.fn.1 (show 0<([oT k wd ka kc]).length from Nat.le_of_ble_eq_true rfl)))<|cR [[],[]]<|cX (qF (fun _ _ _ hG=>bM.idx (k:=.i64) underlying24 sizeOf60 hG.fn.2.1 rfl (show (0:Int)=((0:Nat):Int) from rfl) (show 0<([oT k wd kb kd]).length from Nat.le_of_ble_eq_true rfl)))<|cX (qF (fun _ _ _ hG=>bM.ldA (i:=0) isAgg60 sizeOf60 hG.fn.2.1 (show 0<([oT k wd kb kd]).length from Nat.le_of_ble_eq_true rfl)))<|jE [[],[],[64],[72]]) (fun ρ5=>aB (sS f38 35 [0,1,4,5,6,7,17,18,19,20,23,24,25,26,27,28,29,30,31,32,33,34,35,36,37,38,39,40,41,42,43,44,45,46,47,48,49,50,51,52,53,54,55,56,57,58,59,60,61,62,63,64,65] [] (fun _=>[pt (nb ρ5 8),vi (gT ([oT k wd ka kc]) 0).kd,pt (nb ρ5 9),vi (gT ([oT k wd kb kd]) 0).kd,vF,vF,jp (nb ρ5 8) 1,vi (gT ([oT k wd ka kc]) 0).m,jp (nb ρ5 9) 1,vi (gT ([oT k wd kb kd]) 0).m,vF,vF,vF,jp (nb ρ5 8) 2,vu ((gT ([oT k wd ka kc]) 0).nu),jp (nb ρ5 9) 2,vu ((gT ([oT k wd kb kd]) 0).nu),vF,vF,vF,jp (nb ρ5 8) 3,.agg (hB (gT ([oT k wd ka kc]) 0).h),jp (nb ρ5 9) 3,.agg (hB (gT ([oT k wd kb kd]) 0).h),vF,vF,vF,jp (nb ρ5 8) 35,.slice (gT ([oT k wd ka kc]) 0).ka (gT ([oT k wd ka kc]) 0).ks.length (gT ([oT k wd ka kc]) 0).kc,vn (gT ([oT k wd ka kc]) 0).ks.length,jp (nb ρ5 9) 35,.slice (gT ([oT k wd kb kd]) 0).ka (gT ([oT k wd kb kd]) 0).ks.length (gT ([oT k wd kb kd]) 0).kc,vn (gT ([oT k wd kb kd]) 0).ks.length,vF,vF]) (fun _=>[]) (cR [[],[0],[],[1]]<|jQ (fun ρ=>((gT ([oT k wd ka kc]) 0).kd != (gT ([oT k wd kb kd]) 0).kd)) false (fun _=>(by simp [oT,pT,gT]))<|cR [[],[],[0],[],[1]]<|jQ (fun ρ=>((gT ([oT k wd ka kc]) 0).m != (gT ([oT k wd kb kd]) 0).m)) false (fun _=>(by simp [oT,pT,gT]))<|cR [[],[],[],[0],[],[1]]<|jQ (fun ρ=>((((gT ([oT k wd ka kc]) 0).nu:Nat):Int) != (((gT ([oT k wd kb kd]) 0).nu:Nat):Int))) false (fun _=>(by simp [oT,pT,gT]))<|cR [[],[],[],[0],[],[1]]<|cB (a:=fun ρ=>(.agg (hB (gT ([oT k wd ka kc]) 0).h))) (b:=fun ρ=>(.agg (hB (gT ([oT k wd kb kd]) 0).h))) (v:=fun ρ=>vF) .neq 57 (fun _ _=>(neqH (gT ([oT k wd ka kc]) 0).h (gT ([oT k wd kb kd]) 0).h (ho.gT 0).h (ho.gT 0).h _).trans (by rw [(decide_eq_true (show (gT ([oT k wd ka kc]) 0).h=(gT ([oT k wd kb kd]) 0).h from rfl))];try rfl))<|cR [[],[],[],[0],[],[],[1],[]]<|jQ (fun ρ=>((((gT ([oT k wd ka kc]) 0).ks.length:Nat):Int) != (((gT ([oT k wd kb kd]) 0).ks.length:Nat):Int))) false (fun _=>(by simp [oT,pT,gT]))<|jE [[]]) (fun _=>oN (aG (aA (jJ f38 1 [0,1,4,5,6,7,8,17,18,19,20,23,24,25,26,27,28,29,30,31,32,33,34,35,36,37,38,39,40,41,42,43,44,45,46,47,48,49,50,51,52,53,54,55,56,57,58,59,60,61,62,63,64,65] [vi 0] ?_))))))))))))))))))))))))
 refine lK [(0,(.slice a ([oT k wd ka kc]).length c)),(1,(.slice a2 ([oT k wd kb kd]).length c2)),(4,vF),(5,(vi 0)),(6,(pt (nb ρ5 8))),(7,(pt (nb ρ5 9))),(8,(vi 0)),(17,(vi 0)),(18,(.slice a ([oT k wd ka kc]).length c)),(19,(vi 1)),(20,vT),(23,(.slice a ([oT k wd ka kc]).length c)),(24,(vi 0)),(25,(.pointer (fK a (0*36)))),(26,(.agg (bW.row (gT ([oT k wd ka kc]) 0)))),(27,(.slice a2 ([oT k wd kb kd]).length c2)),(28,(vi 0)),(29,(.pointer (fK a2 (0*36)))),(30,(.agg (bW.row (gT ([oT k wd kb kd]) 0)))),(31,(pt (nb ρ5 8))),(32,(vi (gT ([oT k wd ka kc]) 0).kd)),(33,(pt (nb ρ5 9))),(34,(vi (gT ([oT k wd kb kd]) 0).kd)),(35,vF),(36,vF),(37,(jp (nb ρ5 8) 1)),(38,(vi (gT ([oT k wd ka kc]) 0).m)),(39,(jp (nb ρ5 9) 1)),(40,(vi (gT ([oT k wd kb kd]) 0).m)),(41,vF),(42,vF),(43,vF),(44,(jp (nb ρ5 8) 2)),(45,(vu ((gT ([oT k wd ka kc]) 0).nu))),(46,(jp (nb ρ5 9) 2)),(47,(vu ((gT ([oT k wd kb kd]) 0).nu))),(48,vF),(49,vF),(50,vF),(51,(jp (nb ρ5 8) 3)),(52,(.agg (hB (gT ([oT k wd ka kc]) 0).h))),(53,(jp (nb ρ5 9) 3)),(54,(.agg (hB (gT ([oT k wd kb kd]) 0).h))),(55,vF),(56,vF),(57,vF),(58,(jp (nb ρ5 8) 35)),(59,(.slice (gT ([oT k wd ka kc]) 0).ka (gT ([oT k wd ka kc]) 0).ks.length (gT ([oT k wd ka kc]) 0).kc)),(60,(vn (gT ([oT k wd ka kc]) 0).ks.length)),(61,(jp (nb ρ5 9) 35)),(62,(.slice (gT ([oT k wd kb kd]) 0).ka (gT ([oT k wd kb kd]) 0).ks.length (gT ([oT k wd kb kd]) 0).kc)),(63,(vn (gT ([oT k wd kb kd]) 0).ks.length)),(64,vF),(65,vF)] [(nb ρ5 8,(cL (bW.row (gT ([oT k wd ka kc]) 0)) 60)),(nb ρ5 9,(cL (bW.row (gT ([oT k wd kb kd]) 0)) 60))] (aI (jY 2 (dI (aB (sS f38 5 [0,1,4,5,6,7,8,17,18,19,20,23,24,25,26,27,28,29,30,31,32,33,34,35,36,37,38,39,40,41,42,43,44,45,46,47,48,49,50,51,52,53,54,55,56,57,58,59,60,61,62,63,64,65,66,67,68,69,70] [] (fun _=>[vi 0,jp (nb ρ5 8) 35,.slice (gT ([oT k wd ka kc]) 0).ka (gT ([oT k wd ka kc]) 0).ks.length (gT ([oT k wd ka kc]) 0).kc,vn (gT ([oT k wd ka kc]) 0).ks.length,vT]) (fun _=>[]) (cR [[],[],[0],[]]<|jQ (fun ρ=>(decide (0<(((gT ([oT k wd ka kc]) 0).ks.length:Nat):Int)))) true (fun _=>(by simp [oT,pT,gT]))<|cN) (fun _=>oY (aG (aA (aB (aI (sD f38 [0,1,0,7,15,0,32,0,224,480,0,0,3103,8191] 14 [0,1,4,5,6,7,8,9,10,17,18,19,20,23,24,25,26,27,28,29,30,31,32,33,34,35,36,37,38,39,40,41,42,43,44,45,46,47,48,49,50,51,52,53,54,55,56,57,58,59,60,61,62,63,64,65,66,67,68,69,70,73,74,75,76,77,78,79,80,81,82] [] (fun ρ=>[jp (nb ρ5 8) 35,.slice (gT ([oT k wd ka kc]) 0).ka (gT ([oT k wd ka kc]) 0).ks.length (gT ([oT k wd ka kc]) 0).kc,vi 0,.pointer (fK (gT ([oT k wd ka kc]) 0).ka (0*45)),.agg (dO.row (gK (gT ([oT k wd ka kc]) 0).ks 0)),jp (nb ρ5 9) 35,.slice (gT ([oT k wd kb kd]) 0).ka (gT ([oT k wd kb kd]) 0).ks.length (gT ([oT k wd kb kd]) 0).kc,vi 0,.pointer (fK (gT ([oT k wd kb kd]) 0).ka (0*45)),.agg (dO.row (gK (gT ([oT k wd kb kd]) 0).ks 0)),pt (nb ρ 10),pt (nb ρ 11),undef,undef]) (fun ρ=>[(10,(nw ρ 10 (cL (kM 0 0 0 0 0 0 vz vF) 69))),(11,(nw ρ 11 (cL (kM 0 0 0 0 0 0 vz vF) 69))),(12,(bD 82 (nb ρ 10) (cL (dO.row (gK (gT ([oT k wd ka kc]) 0).ks 0)) 69))),(13,(bD 90 (nb ρ 11) (cL (dO.row (gK (gT ([oT k wd kb kd]) 0).ks 0)) 69)))]) (cR [[],[0],[]]<|cX (qF (fun _ _ _ hG=>oG.idx (k:=.i64) underlying58 sizeOf69 (hG.fn.1.sub _ (xAE (show 0<([oT k wd ka kc]).length from Nat.le_of_ble_eq_true rfl))) rfl (show (0:Int)=((0:Nat):Int) from rfl) (show 0<(gT ([oT k wd ka kc]) 0).ks.length from Nat.le_of_ble_eq_true rfl)))<|cX (qF (fun _ _ _ hG=>oG.ldA (i:=0) isAgg69 sizeOf69 (hG.fn.1.sub _ (xAE (show 0<([oT k wd ka kc]).length from Nat.le_of_ble_eq_true rfl))) (show 0<(gT ([oT k wd ka kc]) 0).ks.length from Nat.le_of_ble_eq_true rfl)))<|cR [[],[1],[]]<|cX (qF (fun _ _ _ hG=>oG.idx (k:=.i64) underlying58 sizeOf69 (hG.fn.2.1.sub _ (xAE (show 0<([oT k wd kb kd]).length from Nat.le_of_ble_eq_true rfl))) rfl (show (0:Int)=((0:Nat):Int) from rfl) (show 0<(gT ([oT k wd kb kd]) 0).ks.length from Nat.le_of_ble_eq_true rfl)))<|cX (qF (fun _ _ _ hG=>oG.ldA (i:=0) isAgg69 sizeOf69 (hG.fn.2.1.sub _ (xAE (show 0<([oT k wd kb kd]).length from Nat.le_of_ble_eq_true rfl))) (show 0<(gT ([oT k wd kb kd]) 0).ks.length from Nat.le_of_ble_eq_true rfl)))<|jE [[],[],[82],[90]]) (fun ρ9=>aB (sS f38 21 [0,1,4,5,6,7,8,9,10,17,18,19,20,23,24,25,26,27,28,29,30,31,32,33,34,35,36,37,38,39,40,41,42,43,44,45,46,47,48,49,50,51,52,53,54,55,56,57,58,59,60,61,62,63,64,65,66,67,68,69,70,73,74,75,76,77,78,79,80,81,82,83,84,85,86,87,88,89,90,91,92,93,94,95,96,97,98,99,100,101,102,103] [] (fun _=>[pt (nb ρ9 10),.agg (kY (gK (gT ([oT k wd ka kc]) 0).ks 0).k),pt (nb ρ9 11),.agg (kY (gK (gT ([oT k wd kb kd]) 0).ks 0).k),vF,vF,jp (nb ρ9 10) 44,.bool (gK (gT ([oT k wd ka kc]) 0).ks 0).wd,jp (nb ρ9 11) 44,.bool (gK (gT ([oT k wd kb kd]) 0).ks 0).wd,vF,vF,vF,jp (nb ρ9 10) 43,.slice (gK (gT ([oT k wd ka kc]) 0).ks 0).pa (nI (gK (gT ([oT k wd ka kc]) 0).ks 0).ps).length (gK (gT ([oT k wd ka kc]) 0).ks 0).pc,vn (nI (gK (gT ([oT k wd ka kc]) 0).ks 0).ps).length,jp (nb ρ9 11) 43,.slice (gK (gT ([oT k wd kb kd]) 0).ks 0).pa (nI (gK (gT ([oT k wd kb kd]) 0).ks 0).ps).length (gK (gT ([oT k wd kb kd]) 0).ks 0).pc,vn (nI (gK (gT ([oT k wd kb kd]) 0).ks 0).ps).length,vF,vF]) (fun _=>[]) (cR [[],[2],[],[3]]<|cB (a:=fun ρ=>(.agg (kY (gK (gT ([oT k wd ka kc]) 0).ks 0).k))) (b:=fun ρ=>(.agg (kY (gK (gT ([oT k wd kb kd]) 0).ks 0).k))) (v:=fun ρ=>vF) .neq 66 (fun _ w=>neq_eq (rfl) w)<|cR [[],[],[2],[],[3]]<|jQ (fun ρ=>((gK (gT ([oT k wd ka kc]) 0).ks 0).wd != (gK (gT ([oT k wd kb kd]) 0).ks 0).wd)) false (fun _=>(by simp [oT,pT,gT,gK]))<|cR [[],[],[],[2],[],[],[3],[]]<|jQ (fun ρ=>((((nI (gK (gT ([oT k wd ka kc]) 0).ks 0).ps).length:Nat):Int) != (((nI (gK (gT ([oT k wd kb kd]) 0).ks 0).ps).length:Nat):Int))) false (fun _=>(by simp [oT,pT,gT,gK,nI]))<|jE [[]]) (fun _=>oN (aG (aA (jJ f38 1 [0,1,4,5,6,7,8,9,10,11,17,18,19,20,23,24,25,26,27,28,29,30,31,32,33,34,35,36,37,38,39,40,41,42,43,44,45,46,47,48,49,50,51,52,53,54,55,56,57,58,59,60,61,62,63,64,65,66,67,68,69,70,73,74,75,76,77,78,79,80,81,82,83,84,85,86,87,88,89,90,91,92,93,94,95,96,97,98,99,100,101,102,103] [vi 0] (aI (jY 1 (dI (aB (sS f38 5 [0,1,4,5,6,7,8,9,10,11,17,18,19,20,23,24,25,26,27,28,29,30,31,32,33,34,35,36,37,38,39,40,41,42,43,44,45,46,47,48,49,50,51,52,53,54,55,56,57,58,59,60,61,62,63,64,65,66,67,68,69,70,73,74,75,76,77,78,79,80,81,82,83,84,85,86,87,88,89,90,91,92,93,94,95,96,97,98,99,100,101,102,103,104,105,106,107,108] [] (fun _=>[vi 0,jp (nb ρ9 10) 43,.slice (gK (gT ([oT k wd ka kc]) 0).ks 0).pa (nI (gK (gT ([oT k wd ka kc]) 0).ks 0).ps).length (gK (gT ([oT k wd ka kc]) 0).ks 0).pc,vn (nI (gK (gT ([oT k wd ka kc]) 0).ks 0).ps).length,vF]) (fun _=>[]) (cR [[],[],[2],[]]<|jQ (fun ρ=>(decide (0<(((nI (gK (gT ([oT k wd ka kc]) 0).ks 0).ps).length:Nat):Int)))) false (fun _=>(by simp [oT,pT,gT,gK,nI]))<|cN) (fun _=>oN (bF ?_))))))))))))))))))))))))
 refine aN (aN (aT (aJ (aA (jL f38 3 [0,1,4,5,6,7,8,9,10,11,17,18,19,20,23,24,25,26,27,28,29,30,31,32,33,34,35,36,37,38,39,40,41,42,43,44,45,46,47,48,49,50,51,52,53,54,55,56,57,58,59,60,61,62,63,64,65,66,67,68,69,70,71,72,73,74,75,76,77,78,79,80,81,82,83,84,85,86,87,88,89,90,91,92,93,94,95,96,97,98,99,100,101,102,103,104,105,106,107,108] [] [vi 0,vi 1,vi 1] [[],[],[]] (dV (dI (aB (sS f38 5 [0,1,4,5,6,7,8,9,10,11,17,18,19,20,23,24,25,26,27,28,29,30,31,32,33,34,35,36,37,38,39,40,41,42,43,44,45,46,47,48,49,50,51,52,53,54,55,56,57,58,59,60,61,62,63,64,65,66,67,68,69,70,71,72,73,74,75,76,77,78,79,80,81,82,83,84,85,86,87,88,89,90,91,92,93,94,95,96,97,98,99,100,101,102,103,104,105,106,107,108] [] (fun _=>[vi 1,jp (nb ρ5 8) 35,.slice (gT ([oT k wd ka kc]) 0).ka (gT ([oT k wd ka kc]) 0).ks.length (gT ([oT k wd ka kc]) 0).kc,vn (gT ([oT k wd ka kc]) 0).ks.length,vF]) (fun _=>[]) (cR [[],[],[0],[]]<|jQ (fun ρ=>(decide (1<(((gT ([oT k wd ka kc]) 0).ks.length:Nat):Int)))) false (fun _=>(by simp [oT,pT,gT]))<|cN) (fun _=>lK [(0,(.slice a ([oT k wd ka kc]).length c)),(1,(.slice a2 ([oT k wd kb kd]).length c2)),(4,vF),(5,(vi 0)),(6,(pt (nb ρ5 8))),(7,(pt (nb ρ5 9))),(8,(vi 1)),(9,(pt (nb ρ9 10))),(10,(pt (nb ρ9 11))),(11,(vi 0)),(17,(vi 0)),(18,(.slice a ([oT k wd ka kc]).length c)),(19,(vi 1)),(20,vT),(23,(.slice a ([oT k wd ka kc]).length c)),(24,(vi 0)),(25,(.pointer (fK a (0*36)))),(26,(.agg (bW.row (gT ([oT k wd ka kc]) 0)))),(27,(.slice a2 ([oT k wd kb kd]).length c2)),(28,(vi 0)),(29,(.pointer (fK a2 (0*36)))),(30,(.agg (bW.row (gT ([oT k wd kb kd]) 0)))),(31,(pt (nb ρ5 8))),(32,(vi (gT ([oT k wd ka kc]) 0).kd)),(33,(pt (nb ρ5 9))),(34,(vi (gT ([oT k wd kb kd]) 0).kd)),(35,vF),(36,vF),(37,(jp (nb ρ5 8) 1)),(38,(vi (gT ([oT k wd ka kc]) 0).m)),(39,(jp (nb ρ5 9) 1)),(40,(vi (gT ([oT k wd kb kd]) 0).m)),(41,vF),(42,vF),(43,vF),(44,(jp (nb ρ5 8) 2)),(45,(vu ((gT ([oT k wd ka kc]) 0).nu))),(46,(jp (nb ρ5 9) 2)),(47,(vu ((gT ([oT k wd kb kd]) 0).nu))),(48,vF),(49,vF),(50,vF),(51,(jp (nb ρ5 8) 3)),(52,(.agg (hB (gT ([oT k wd ka kc]) 0).h))),(53,(jp (nb ρ5 9) 3)),(54,(.agg (hB (gT ([oT k wd kb kd]) 0).h))),(55,vF),(56,vF),(57,vF),(58,(jp (nb ρ5 8) 35)),(59,(.slice (gT ([oT k wd ka kc]) 0).ka (gT ([oT k wd ka kc]) 0).ks.length (gT ([oT k wd ka kc]) 0).kc)),(60,(vn (gT ([oT k wd ka kc]) 0).ks.length)),(61,(jp (nb ρ5 9) 35)),(62,(.slice (gT ([oT k wd kb kd]) 0).ka (gT ([oT k wd kb kd]) 0).ks.length (gT ([oT k wd kb kd]) 0).kc)),(63,(vn (gT ([oT k wd kb kd]) 0).ks.length)),(64,vF),(65,vF),(66,(vi 1)),(67,(jp (nb ρ5 8) 35)),(68,(.slice (gT ([oT k wd ka kc]) 0).ka (gT ([oT k wd ka kc]) 0).ks.length (gT ([oT k wd ka kc]) 0).kc)),(69,(vn (gT ([oT k wd ka kc]) 0).ks.length)),(70,vF),(71,(vi 0)),(72,(vi 1)),(73,(jp (nb ρ5 8) 35)),(74,(.slice (gT ([oT k wd ka kc]) 0).ka (gT ([oT k wd ka kc]) 0).ks.length (gT ([oT k wd ka kc]) 0).kc)),(75,(vi 0)),(76,(.pointer (fK (gT ([oT k wd ka kc]) 0).ka (0*45)))),(77,(.agg (dO.row (gK (gT ([oT k wd ka kc]) 0).ks 0)))),(78,(jp (nb ρ5 9) 35)),(79,(.slice (gT ([oT k wd kb kd]) 0).ka (gT ([oT k wd kb kd]) 0).ks.length (gT ([oT k wd kb kd]) 0).kc)),(80,(vi 0)),(81,(.pointer (fK (gT ([oT k wd kb kd]) 0).ka (0*45)))),(82,(.agg (dO.row (gK (gT ([oT k wd kb kd]) 0).ks 0)))),(83,(pt (nb ρ9 10))),(84,(.agg (kY (gK (gT ([oT k wd ka kc]) 0).ks 0).k))),(85,(pt (nb ρ9 11))),(86,(.agg (kY (gK (gT ([oT k wd kb kd]) 0).ks 0).k))),(87,vF),(88,vF),(89,(jp (nb ρ9 10) 44)),(90,(.bool (gK (gT ([oT k wd ka kc]) 0).ks 0).wd)),(91,(jp (nb ρ9 11) 44)),(92,(.bool (gK (gT ([oT k wd kb kd]) 0).ks 0).wd)),(93,vF),(94,vF),(95,vF),(96,(jp (nb ρ9 10) 43)),(97,(.slice (gK (gT ([oT k wd ka kc]) 0).ks 0).pa (nI (gK (gT ([oT k wd ka kc]) 0).ks 0).ps).length (gK (gT ([oT k wd ka kc]) 0).ks 0).pc)),(98,(vn (nI (gK (gT ([oT k wd ka kc]) 0).ks 0).ps).length)),(99,(jp (nb ρ9 11) 43)),(100,(.slice (gK (gT ([oT k wd kb kd]) 0).ks 0).pa (nI (gK (gT ([oT k wd kb kd]) 0).ks 0).ps).length (gK (gT ([oT k wd kb kd]) 0).ks 0).pc)),(101,(vn (nI (gK (gT ([oT k wd kb kd]) 0).ks 0).ps).length)),(102,vF),(103,vF),(104,(vi 0)),(105,(jp (nb ρ9 10) 43)),(106,(.slice (gK (gT ([oT k wd ka kc]) 0).ks 0).pa (nI (gK (gT ([oT k wd ka kc]) 0).ks 0).ps).length (gK (gT ([oT k wd ka kc]) 0).ks 0).pc)),(107,(vn (nI (gK (gT ([oT k wd ka kc]) 0).ks 0).ps).length)),(108,vF)] [(nb ρ5 8,(cL (bW.row (gT ([oT k wd ka kc]) 0)) 60)),(nb ρ5 9,(cL (bW.row (gT ([oT k wd kb kd]) 0)) 60)),(nb ρ9 10,(cL (dO.row (gK (gT ([oT k wd ka kc]) 0).ks 0)) 69)),(nb ρ9 11,(cL (dO.row (gK (gT ([oT k wd kb kd]) 0).ks 0)) 69))] (oN (bF (aN (aN (aT (aJ (aA (jL f38 3 [0,1,4,5,6,7,8,9,10,11,17,18,19,20,21,22,23,24,25,26,27,28,29,30,31,32,33,34,35,36,37,38,39,40,41,42,43,44,45,46,47,48,49,50,51,52,53,54,55,56,57,58,59,60,61,62,63,64,65,66,67,68,69,70,71,72,73,74,75,76,77,78,79,80,81,82,83,84,85,86,87,88,89,90,91,92,93,94,95,96,97,98,99,100,101,102,103,104,105,106,107,108] [] [vi 0,vi 1,vi 1] [[],[],[]] (dV (dI (aB (jJ f38 4 [0,1,4,5,6,7,8,9,10,11,17,18,19,20,21,22,23,24,25,26,27,28,29,30,31,32,33,34,35,36,37,38,39,40,41,42,43,44,45,46,47,48,49,50,51,52,53,54,55,56,57,58,59,60,61,62,63,64,65,66,67,68,69,70,71,72,73,74,75,76,77,78,79,80,81,82,83,84,85,86,87,88,89,90,91,92,93,94,95,96,97,98,99,100,101,102,103,104,105,106,107,108] [vi 1,.slice a ([oT k wd ka kc]).length c,vi 1,vF] (oN (bF ?_))))))))))))))))))))))))
 refine aN (aN (aT (aA (jM f38 1 [4] [0,0,0,0] [vT] [[]] (aF ?_)))))
 exact mR (v:=vT) (fun _ hS=>⟨rfl,hS.bel⟩)
theorem wsame_any (a:Option Addr) (c:Nat) (l:List bU) (a2:Option Addr) (c2:Nat) (m:List bU) (he:sB l=sB m) (w0:World) (hf0:bI w0 a c l) (hf1:bI w0 a2 c2 m):Calls prog 23 #[.slice a l.length c,.slice a2 m.length c2] w0 (jR vT w0):=by
 refine Calls.of_ok (n:=27) (F:=(fun w=>bI w a c l∧bI w a2 c2 m∧True)) func23 rfl rfl rfl (by simp) (hf0.pers0.and (hf1.pers0.and cO)) ?_
 have hlen:l.length≤140737488351232:=hf0.max
 have hle:l.length=m.length:=sB_eqlen he
 refine jJ f23 1 [0,1,4] [vF] (aB (sS f23 5 [0,1,4,10] [] (fun _=>[.slice a l.length c,vn l.length,.slice a2 m.length c2,vn m.length,vF]) (fun _=>[]) (cR [[],[],[],[]]<|jQ (fun ρ=>(((l.length:Nat):Int) != ((m.length:Nat):Int))) false (fun _=>(bne_f (oA (sB_eqlen he))))<|cN) (fun _=>oN (aG (aA (aB (jJ f23 1 [0,1,4,5] [vi 0] (aI ?_))))))))
 refine oL (σ:=Nat) (fun i=>[(0,(.slice a l.length c)),(1,(.slice a2 m.length c2)),(5,(vn i))]) (fun _=>[]) (fun i=>l.length-i)
  (fun i=>(i≤l.length)) 0 (Nat.zero_le _) [] ?_
 rintro i hi
 refine aB (jJ f23 4 [0,1,5,14] [vn i,.slice a l.length c,vn l.length,.bool (decide (((i:Nat):Int)<((l.length:Nat):Int)))] (oC (decide (((i:Nat):Int)<((l.length:Nat):Int))) (fun hb1=>?_) (fun hb1=>?_)))
 ·rw [hb1]
  have:=yT hb1
  refine aG (aA (aB (aI (sD f23 [0,0,3,7,0,0,48,112,255,511] 10 [0,1,5,26] [] (fun _=>[.slice a l.length c,vn i,.pointer (fK a i),.slice (gS l i).a (gS l i).b.length (gS l i).c,.slice a2 m.length c2,vn i,.pointer (fK a2 i),.slice (gS m i).a (gS m i).b.length (gS m i).c,vT,vF]) (fun _=>[]) (cR [[],[]]<|cX (qF (fun _ _ _ hG=>bI.idx (k:=.i64) underlying29 sizeOf37 hG.fn.1 rfl (show ((i:Nat):Int)=((i:Nat):Int) from rfl) (show i<l.length from om)))<|cX (qF (fun _ _ _ hG=>bI.ld isAgg37 hG.fn.1 (show i<l.length from om)))<|cR [[],[]]<|cX (qF (fun _ _ _ hG=>bI.idx (k:=.i64) underlying29 sizeOf37 hG.fn.2.1 rfl (show ((i:Nat):Int)=((i:Nat):Int) from rfl) (show i<m.length from om)))<|cX (qF (fun _ _ _ hG=>bI.ld isAgg37 hG.fn.2.1 (show i<m.length from om)))<|cX (lN _ 20 (fun _=> #[.slice (gS l i).a (gS l i).b.length (gS l i).c,.slice (gS m i).a (gS m i).b.length (gS m i).c]) (fun _=>vT) (fun _ _=>(by kernel_rfl)) (fun _=>(by kernel_rfl)) (fun _ _=>(by kernel_rfl)) (fun _ _=>trivial) (fun _ _ w hG=>(by as_aux_lemma=>(have hcall:=xAY (gS l i).a (gS l i).c (gS l i).b (gS m i).a (gS m i).c (gS m i).b w (hG.fn.1.sub _ (oH (show i<l.length from om))) (hG.fn.2.1.sub _ (oH (show i<m.length from om)));rw [(decide_eq_true (same_len he i))] at hcall;exact hcall))))<|jE [[]]) (fun _=>oN (aG (aJ (aA (rS f23 3 [0,1,5] [] (fun _=>[vn i,vn (i+1),vn (i+1)]) (fun _=>[]) (cR [[]]<|jW (fun ρ=>(((i:Nat):Int)+1)) (fun _=>(i+1)) (fun _=>(aW i 1 om))<|jE [[]]) (fun _=>?_))))))))))
  exact mN (i+1) (by show l.length-(i+1)<l.length-i;omega) om []
 rw [hb1]
 refine bF (aN (aN (aT (aA (jJ f23 1 [4] [vT] (aF ?_))))))
 exact mR (v:=vT) (fun _ hS=>⟨rfl,hS.bel⟩)
theorem rsameW_any (a:Option Addr) (c:Nat) (k:Ky) (wd:Bool) (ka:Option Addr) (kc:Nat) (b2:Option Addr) (d2:Nat) (kb:Option Addr) (kd:Nat) (x1:Int) (x2:Int) (a2:Option Addr) (c2:Nat) (l:List bU) (a3:Option Addr) (c3:Nat) (m:List bU) (hk:k.Ok) (hd:rng k.d) (he:sB l=sB m) (w0:World) (hf0:bM w0 a c ([oT k wd ka kc])) (hf1:bM w0 b2 d2 ([oT k wd kb kd])) (hf2:bI w0 a2 c2 l) (hf3:bI w0 a3 c3 m):Calls prog 13 #[.agg #[.slice a ([oT k wd ka kc]).length c,vi x1,vi x2,.slice a2 l.length c2],.agg #[.slice b2 ([oT k wd kb kd]).length d2,vi x1,vi x2,.slice a3 m.length c3]] w0 (jR vT w0):=by
 refine Calls.of_ok (n:=31) (F:=(fun w=>bM w a c ([oT k wd ka kc])∧bM w b2 d2 ([oT k wd kb kd])∧bI w a2 c2 l∧bI w a3 c3 m∧True)) func13 rfl rfl rfl (by simp) (hf0.pers0.and (hf1.pers0.and (hf2.pers0.and (hf3.pers0.and cO)))) (sS f13 3 [2,3,4] [] (fun ρ=>[pt (nb ρ 0),pt (nb ρ 1),vF]) (fun ρ=>[(0,(nw ρ 0 (cL #[.slice a ([oT k wd ka kc]).length c,vi x1,vi x2,.slice a2 l.length c2] 31))),(1,(nw ρ 1 (cL #[.slice b2 ([oT k wd kb kd]).length d2,vi x1,vi x2,.slice a3 m.length c3] 31)))]) (jE [[],[],[]]) (fun ρ1=>sS f13 27 [4] [0,0] (fun _=>[pt (nb ρ1 0),.slice a ([oT k wd ka kc]).length c,pt (nb ρ1 1),.slice b2 ([oT k wd kb kd]).length d2,vT,vT,jp (nb ρ1 0) 1,vi x1,jp (nb ρ1 1) 1,vi x1,vT,vT,vT,jp (nb ρ1 0) 2,vi x2,jp (nb ρ1 1) 2,vi x2,vT,vT,vT,jp (nb ρ1 0) 3,.slice a2 l.length c2,jp (nb ρ1 1) 3,.slice a3 m.length c3,vT,vT,vT]) (fun _=>[]) (cR [[],[0],[],[1]]<|cX (qC (fun _ _ w hG=>rsameT_any a c k wd ka kc b2 d2 kb kd hk hd w hG.fn.1 hG.fn.2.1))<|cR [[],[],[0],[],[1]]<|jQ (fun ρ=>(x1==x1)) true (fun _=>(beq_self_eq_true _))<|cR [[],[],[],[0],[],[1]]<|jQ (fun ρ=>(x2==x2)) true (fun _=>(beq_self_eq_true _))<|cR [[],[],[],[0],[],[1]]<|cX (qC (fun _ _ w hG=>wsame_any a2 c2 l a3 c3 m he w hG.fn.2.2.1 hG.fn.2.2.2.1))<|jE [[],[]]) (fun _=>aF ?_)))
 exact mR (v:=vT) (fun _ hS=>⟨rfl,hS.bel⟩)
def u8z (z:Int):Nat:=(z%256).toNat
theorem u8z_lt (z:Int):u8z z<256:=by unfold u8z;omega
theorem u8z_wrap (z:Int):IntKind.u8.wrap z=((u8z z:Nat):Int):=by
 show z%256=_
 unfold u8z;omega
def kQ (p c:Nat):Ky:=⟨0,p,c,0,0,0⟩
theorem kQ_ok {p c:Nat} (hp:p<M) (hc:c<M):(kQ p c).Ok:=⟨iL,hp,hc,by show (0:Nat)<4294967296;decide,by show (0:Nat)<4294967296;decide⟩
theorem kQ_rng {p c:Nat}:rng (kQ p c).d:=dS (z:=0) (by decide)
def kR (z:Int):Ky:=kQ (shlW 4 (2*(dm z 3))).toNat (hs2 (u8z z) 0)
theorem kR_ok (z:Int):(kR z).Ok:=kQ_ok (word_ltM (word_shl 4 _)) (hs2_lt (u8z_lt z) (by decide))
theorem kR_rng (z:Int):rng (kR z).d:=kQ_rng
theorem rx_T (k:Ky) (wd:Bool) (g:Nat):kT.A (iC 1 0 0 0 (.slice (some ⟨g,0,none⟩) 1 1)) [oT k wd (some ⟨g,0,none⟩) 1] 1:=kT_one (oT k wd (some ⟨g,0,none⟩) 1)
theorem rx_K (p c:Nat):kK.A (kM 0 p c 0 0 0 (.slice none 0 0) (.bool true)) [pT (kQ p c) true] 1:=kK_one (pT (kQ p c) true)
theorem rangedw_any (z:Int) (pv:Nat) (cv:Nat) (hz: -9223372036854775808≤z∧z<9223372036854775808) (hp:pv<M) (hc:cv<M) (ep:(shlW 4 (2*(dm z 3))).toNat=pv) (ec:hs2 (u8z z) 0=cv) (w0:World) (T:Nat→Prop) (hT:∀ b,T b→b<w0.heap.size):Calls prog 14 #[vi z] w0 (fun ε w'=>jG w0 w'∧∃ r:bH,ε=.returned (.slice r.a 1 (r.n.headD 0))∧mX w0.heap.size r.a∧mX w0.heap.size r.b∧dL T (fun w=>bM w r.a (r.n.headD 0) [oT (kQ pv cv) true r.b (r.n.tail.headD 0)]) w'):=by
 refine Calls.of_ok (n:=19) (F:=(fun _=>True)) func14 rfl rfl rfl (by simp) jT (jJ f14 1 [0,2] [vz] (sS f14 12 [2,3] [] (fun ρ=>[vi z,vn (dm z 3),vn (2*(dm z 3)),vx (2*(dm z 3)),.int .u64 (shlW 4 (2*(dm z 3))),U pv,vi z,vy (u8z z),.agg (hB cv),.agg (kC 0 pv cv 0 0 0),pt (nb ρ 10),undef]) (fun ρ=>[(10,(nw ρ 10 (cL (kC 0 0 0 0 0 0) 66))),(11,(bD 80 (nb ρ 10) (cL (kC 0 pv cv 0 0 0) 66)))]) (cR [[]]<|cC (fun _ w=>xBE z 3 (by decide) hz w)<|jW (fun ρ=>(2*((dm z 3:Nat):Int))) (fun _=>(2*(dm z 3))) (fun _=>(fQ 2 (dm z 3) (oA (iG z (n:=3) (by decide)))))<|cA (v:=fun ρ=>(.int .u64 (IntKind.u64.wrap ((2*(dm z 3):Nat):Int)))) (fun _=>(vx (2*(dm z 3)))) (fun _=>congrArg (Value.int .u64) (u64N (oA (iG z (n:=3) (by decide)))))<|cB (a:=fun ρ=>(.int .u64 4)) (b:=fun ρ=>(vx (2*(dm z 3)))) (v:=fun ρ=>(.int .u64 (shlW 4 (2*(dm z 3))))) .shl 62 (fun _ w=>run_shl 4 (2*(dm z 3)) w)<|cA (v:=fun ρ=>(.agg #[.int .u64 (shlW 4 (2*(dm z 3))),.int .u64 0,.int .u64 0,.int .u64 0])) (fun _=>(U pv)) (fun _=>(U_word (word_shl 4 _)).trans (congrArg U ep))<|cR [[]]<|cA (fun _=>(vy (u8z z))) (fun _=>congrArg (Value.int .u8) (u8z_wrap z))<|cA (v:=fun ρ=>(.agg #[vy (u8z z),.int .u8 0,.int .u8 0,.int .u8 0,.int .u8 0,.int .u8 0,.int .u8 0,.int .u8 0,.int .u8 0,.int .u8 0,.int .u8 0,.int .u8 0,.int .u8 0,.int .u8 0,.int .u8 0,.int .u8 0,.int .u8 0,.int .u8 0,.int .u8 0,.int .u8 0,.int .u8 0,.int .u8 0,.int .u8 0,.int .u8 0,.int .u8 0,.int .u8 0,.int .u8 0,.int .u8 0,.int .u8 0,.int .u8 0,.int .u8 0,.int .u8 0])) (fun _=>(.agg (hB cv))) (fun _=>(hs2_agg (b:=0) (u8z_lt z) (by decide)).trans (congrArg (fun x=>Value.agg (hB x)) ec))<|jE [[],[],[80]]) (fun ρ2=>sS f14 6 [2] [] (fun ρ=>[.agg (kC 0 pv cv 0 0 0),.agg (kM 0 pv cv 0 0 0 vz vT),vs (nb ρ 2) 1 1,.agg (iC 1 0 0 0 (vs (nb ρ 2) 1 1)),vs (nb ρ 4) 1 1,vs (nb ρ 4) 1 1]) (fun ρ=>[(2,(nw ρ 2 (cL (kM 0 pv cv 0 0 0 vz vT) 69))),(4,(nw ρ 4 (cL (iC 1 0 0 0 (vs (nb ρ 2) 1 1)) 60)))]) (jE [[0],[],[],[],[],[]]) (fun ρ3=>aF (mD [(2,(vs (nb ρ3 4) 1 1))] [(nb ρ2 10,(cL (kC 0 pv cv 0 0 0) 66)),(nb ρ3 2,(cL (kM 0 pv cv 0 0 0 vz vT) 69)),(nb ρ3 4,(cL (iC 1 0 0 0 (vs (nb ρ3 2) 1 1)) 60))] ?_)))))
 exact mR (v:=(vs (nb ρ3 4) 1 1)) (fun _ hS=>⟨hS.bel,{ n:=[1,1],a:=some ⟨nb ρ3 4,0,none⟩,b:=some ⟨nb ρ3 2,0,none⟩},rfl,mX.some (hS.newb (.tail _ (.tail _ (.head _)))).1,mX.some (hS.newb (.tail _ (.head _))).1,hS.oneT (k:=kQ pv cv) (wd:=true) hT (hS.newb (.tail _ (.tail _ (.head _)))) (hS.newb (.tail _ (.head _))) (rx_T _ _ _) (rx_K pv cv) (pT_ok (kQ_ok hp hc) kQ_rng)⟩)
theorem ranged_any (z:Int) (hz: -9223372036854775808≤z∧z<9223372036854775808) (w0:World) (T:Nat→Prop) (hT:∀ b,T b→b<w0.heap.size):Calls prog 14 #[.int .i64 z] w0 (fun ε w'=>jG w0 w'∧∃ r:bH,ε=.returned (.slice r.a 1 (r.n.headD 0))∧mX w0.heap.size r.a∧mX w0.heap.size r.b∧dL T (fun w=>bM w r.a (r.n.headD 0) [oT (kR z) true r.b (r.n.tail.headD 0)]) w'):=rangedw_any z _ _ hz (kR_ok z).p (kR_ok z).c rfl rfl w0 T hT
theorem fixedw_any  (w0:World) (T:Nat→Prop) (hT:∀ b,T b→b<w0.heap.size):Calls prog 26 #[] w0 (fun ε w'=>jG w0 w'∧∃ r:bH,ε=.returned (.slice r.a 1 (r.n.headD 0))∧mX w0.heap.size r.a∧mX w0.heap.size r.b∧dL T (fun w=>bM w r.a (r.n.headD 0) [oT (kP 4) false r.b (r.n.tail.headD 0)]) w'):=by
 refine Calls.of_ok (n:=7) (F:=(fun _=>True)) func26 rfl rfl rfl (by simp) jT (jJ f26 1 [0] [vz] (sS f26 7 [0] [] (fun ρ=>[U 4,.agg (kC 0 4 0 0 0 0),.agg (kM 0 4 0 0 0 0 vz vF),vs (nb ρ 3) 1 1,.agg (iC 1 0 0 0 (vs (nb ρ 3) 1 1)),vs (nb ρ 5) 1 1,vs (nb ρ 5) 1 1]) (fun ρ=>[(3,(nw ρ 3 (cL (kM 0 4 0 0 0 0 vz vF) 69))),(5,(nw ρ 5 (cL (iC 1 0 0 0 (vs (nb ρ 3) 1 1)) 60)))]) (jE [[],[],[],[],[],[],[]]) (fun ρ2=>aF (mD [(0,(vs (nb ρ2 5) 1 1))] [(nb ρ2 3,(cL (kM 0 4 0 0 0 0 vz vF) 69)),(nb ρ2 5,(cL (iC 1 0 0 0 (vs (nb ρ2 3) 1 1)) 60))] ?_))))
 exact mR (v:=(vs (nb ρ2 5) 1 1)) (fun _ hS=>⟨hS.bel,{ n:=[1,1],a:=some ⟨nb ρ2 5,0,none⟩,b:=some ⟨nb ρ2 3,0,none⟩},rfl,mX.some (hS.newb (.tail _ (.head _))).1,mX.some (hS.newb (.head _)).1,hS.oneT (k:=kP 4) (wd:=false) hT (hS.newb (.tail _ (.head _))) (hS.newb (.head _)) (fx_T _) fx_K (pT_ok (kP_ok four_M) kP_rng)⟩)
theorem wnew_any (a:Option Addr) (c:Nat) (k:Ky) (ka:Option Addr) (kc:Nat) (z:Int) (hk:k.Ok) (hd:rng k.d) (hv:xW [oT k false ka kc]=true) (hE:pX [oT k false ka kc] 0=0) (_hz:1≤z∧z≤20) (w0:World) (hf0:bM w0 a c ([oT k false ka kc])) (hf1:kJ w0) (hf2:fU w0) (T:Nat→Prop) (hT:∀ b,T b→b<w0.heap.size):Calls prog 11 #[.slice a ([oT k false ka kc]).length c,vi z] w0 (fun ε w'=>jG w0 w'∧∃ r:bH,ε=.returned (.tuple #[.agg #[.slice r.a 1 (r.n.headD 0),.int .i64 z,.int .i64 0,.slice r.d r.s.length (r.n.tail.tail.headD 0)],.int .i64 0])∧dL T (fun w=>bM w r.a (r.n.headD 0) [oT k false r.b (r.n.tail.headD 0)]∧bI w r.d (r.n.tail.tail.headD 0) r.s∧sB r.s=gwB [oT k false ka kc] 1) w'):=by
 refine Calls.of_ok (n:=38) (F:=(fun w=>bM w a c ([oT k false ka kc])∧kJ w∧fU w∧True)) func11 rfl rfl rfl (by simp) (hf0.pers0.and (hf1.pers0.and (hf2.pers0.and cO))) (sS f11 2 [0,1,4,5] [] (fun ρ=>[pt (nb ρ 0),vi 0]) (fun ρ=>[(0,(nw ρ 0 (cL #[vz,vi 0,vi 0,vz] 31)))]) (jE [[],[]]) (fun ρ1=>aB (sS f11 3 [0,1,4,5,11] [] (fun _=>[.slice a ([oT k false ka kc]).length c,vT,vF]) (fun _=>[]) (cR [[]]<|cX (lN _ 31 (fun _=> #[.slice a ([oT k false ka kc]).length c]) (fun _=>vT) (fun _ _=>(by kernel_rfl)) (fun _=>(by kernel_rfl)) (fun _ _=>(by kernel_rfl)) (fun _ _=>trivial) (fun _ _ w hG=>(by as_aux_lemma=>(have hcall:=xBT a c ([oT k false ka kc]) w hG.fn.1;rw [hv] at hcall;exact hcall))))<|jE [[]]) (fun _=>oN (aG (aA (aB (sS f11 6 [0,1,4,5,18] [] (fun _=>[vi z,vF,vF,vi z,vF,vF]) (fun _=>[]) (cR [[]]<|jQ (fun ρ=>(decide (z<1))) false (fun _=>(decide_eq_false om))<|cR [[],[]]<|jQ (fun ρ=>(decide (20<z))) false (fun _=>(decide_eq_false om))<|jE [[]]) (fun _=>oN (aG (aA (jJ f11 1 [0,1,4,5,6] [vi 1] (aB (sS f11 2 [0,1,4,5,6,21] [] (fun _=>[.slice a ([oT k false ka kc]).length c,vF]) (fun _=>[]) (cR [[]]<|cX (lN _ 32 (fun _=> #[.slice a ([oT k false ka kc]).length c]) (fun _=>vF) (fun _ _=>(by kernel_rfl)) (fun _=>(by kernel_rfl)) (fun _ _=>(by kernel_rfl)) (fun _ _=>trivial) (fun _ _ w hG=>(by as_aux_lemma=>(have hcall:=wO a c ([oT k false ka kc]) w hG.fn.1;rw [oT_rg] at hcall;exact hcall))))<|cN) (fun _=>oN (aG (aA (iZ f11 8 [0,1,4,5,7,8] [] (fun ρ=>let qa:Value:=.slice (oa ρ 2) (os ρ 2).length (nb ρ 2);[.slice a ([oT k false ka kc]).length c,vi 1,.tuple #[qa,vi 0],.tuple #[qa,vi 0],qa,vi 0,qa,vi 0]) (fun _=>[]) (fun ρ=>[(2,fun w=>(bI w (oa ρ 2) (nb ρ 2) (os ρ 2)∧sB (os ρ 2)=gwB ([oT k false ka kc]) 1∧sK w0.heap.size (os ρ 2)∧mX w0.heap.size (oa ρ 2)))]) (fun ρ=>(fun w=>bM w a c ([oT k false ka kc])∧kJ w∧fU w∧bI w (oa ρ 2) (nb ρ 2) (os ρ 2)∧True)) (fun ρ=>(sB (os ρ 2)=gwB ([oT k false ka kc]) 1∧sK w0.heap.size (os ρ 2)∧mX w0.heap.size (oa ρ 2))) (fun _ _ hF hf=>⟨⟨hF.1,hF.2.1,hF.2.2.1,(hf 2).1,trivial⟩,(hf 2).2⟩) (cR [[],[]]<|cX (qE (fun _ τ w hG=>wgrow_any a c ([oT k false ka kc]) 1 oT_kd (by decide) (fun i _=>by obtain rfl:i=0:=(by omega);exact hE) w hG.fn.1 hG.fn.2.1 hG.fn.2.2.1 τ hG.lt))<|jE [[],[],[],[],[]]) (fun ρ6 ap6_2=>aB (jJ f11 2 [0,1,4,5,7,8,30] [vi 0,vF] (lK [(0,(.slice a ([oT k false ka kc]).length c)),(1,(vi z)),(4,(pt (nb ρ1 0))),(5,(vi 0)),(7,(.slice (oa ρ6 2) (os ρ6 2).length (nb ρ6 2))),(8,(vi 0)),(30,vF)] [(nb ρ1 0,(cL #[vz,vi 0,vi 0,vz] 31))] (oN (aG (aA ?_))))))))))))))))))))))))
 refine iZ f11 7 [4,5] [] (fun ρ=>let qa:Value:=.slice (oa ρ 1) ([oT k false (fD ρ 1) (aZ ρ 1)]).length (nb ρ 1);let qb:Value:=.slice (oa ρ6 2) (os ρ6 2).length (nb ρ6 2);[.slice a ([oT k false ka kc]).length c,qa,vi z,qb,.agg #[qa,vi z,vi 0,qb],undef,vi 0]) (fun ρ=>[(5,(bD 0 (nb ρ1 0) (cL #[.slice (oa ρ 1) ([oT k false (fD ρ 1) (aZ ρ 1)]).length (nb ρ 1),vi z,vi 0,.slice (oa ρ6 2) (os ρ6 2).length (nb ρ6 2)] 31)))]) (fun ρ=>[(1,fun w=>(bM w (oa ρ 1) (nb ρ 1) ([oT k false (fD ρ 1) (aZ ρ 1)])∧mX w0.heap.size (oa ρ 1)∧mX w0.heap.size (fD ρ 1)))]) (fun ρ=>(fun w=>bM w a c ([oT k false ka kc])∧kJ w∧fU w∧bI w (oa ρ6 2) (nb ρ6 2) (os ρ6 2)∧bM w (oa ρ 1) (nb ρ 1) ([oT k false (fD ρ 1) (aZ ρ 1)])∧True)) (fun ρ=>(mX w0.heap.size (oa ρ 1)∧mX w0.heap.size (fD ρ 1))) (fun _ _ hF hf=>⟨⟨hF.1,hF.2.1,hF.2.2.1,hF.2.2.2.1,(hf 1).1,trivial⟩,(hf 1).2⟩) (cR [[]]<|cX (qT1 (fun _ τ w hG=>xBP a c k false ka kc hk hd w hG.fn.1 τ hG.lt))<|jE [[],[],[],[0],[]]) (fun ρ8 ap8_1=>aF (mD [(4,(pt (nb ρ1 0))),(5,(vi 0))] [(nb ρ1 0,(cL #[.slice (oa ρ8 1) ([oT k false (fD ρ8 1) (aZ ρ8 1)]).length (nb ρ8 1),vi z,vi 0,.slice (oa ρ6 2) (os ρ6 2).length (nb ρ6 2)] 31))] ?_))
 exact mR (v:=(.tuple #[.agg #[.slice (oa ρ8 1) ([oT k false (fD ρ8 1) (aZ ρ8 1)]).length (nb ρ8 1),vi z,vi 0,.slice (oa ρ6 2) (os ρ6 2).length (nb ρ6 2)],vi 0])) (fun _ hS=>⟨hS.bel,{ n:=[nb ρ8 1,aZ ρ8 1,nb ρ6 2],a:=oa ρ8 1,b:=fD ρ8 1,d:=oa ρ6 2,s:=os ρ6 2},rfl,((bM.oneP hS.facts.now.2.2.2.2.1 ap8_1.1 ap8_1.2 hT).and (bI.newP hS.facts.now.2.2.2.1 ap6_2.2.2 ap6_2.2.1 hT)).mono (fun _ h=>⟨h.1,h.2,ap6_2.1⟩)⟩)
theorem wfresh_any (a:Option Addr) (c:Nat) (k:Ky) (ka:Option Addr) (kc:Nat) (x1:Int) (x2:Int) (a2:Option Addr) (c2:Nat) (l:List bU) (_hl:l.length=1) (w0:World) (hf0:bM w0 a c ([oT k false ka kc])) (hf1:bI w0 a2 c2 l):Calls prog 18 #[.agg #[.slice a ([oT k false ka kc]).length c,vi x1,vi x2,.slice a2 l.length c2]] w0 (fun ε w'=>∃ α κ,ε=.returned (.tuple #[.slice α (gS l 0).b.length κ,vi 0])∧jG w0 w'∧Fs w0 w' α κ (gS l 0).b):=by
 refine Calls.of_ok (n:=26) (F:=(fun w=>bM w a c ([oT k false ka kc])∧bI w a2 c2 l∧True)) func18 rfl rfl rfl (by simp) (hf0.pers0.and (hf1.pers0.and cO)) (sS f18 3 [1,2,3] [] (fun ρ=>[pt (nb ρ 0),vz,vi 0]) (fun ρ=>[(0,(nw ρ 0 (cL #[.slice a ([oT k false ka kc]).length c,vi x1,vi x2,.slice a2 l.length c2] 31)))]) (jE [[],[],[]]) (fun ρ1=>jJ f18 1 [1,2,3,4] [vi 0] (aB (sS f18 3 [1,2,3,4,7] [] (fun _=>[pt (nb ρ1 0),.slice a ([oT k false ka kc]).length c,vF]) (fun _=>[]) (cR [[],[0]]<|cX (lN _ 32 (fun _=> #[.slice a ([oT k false ka kc]).length c]) (fun _=>vF) (fun _ _=>(by kernel_rfl)) (fun _=>(by kernel_rfl)) (fun _ _=>(by kernel_rfl)) (fun _ _=>trivial) (fun _ _ w hG=>(by as_aux_lemma=>(have hcall:=wO a c ([oT k false ka kc]) w hG.fn.1;rw [oT_rg] at hcall;exact hcall))))<|cN) (fun _=>oN (aG (aA (aB (sS f18 9 [1,2,3,4,18] [] (fun _=>[vi 0,vF,vF,vi 0,jp (nb ρ1 0) 3,.slice a2 l.length c2,vn l.length,vF,vF]) (fun _=>[]) (cR [[],[],[],[],[],[0],[]]<|jQ (fun ρ=>(decide (((l.length:Nat):Int)≤0))) false (fun _=>(decide_eq_false om))<|jE [[]]) (fun _=>oN (aG (aA (iZ f18 9 [2,3] [0] (fun ρ=>let qa:Value:=.slice (oa ρ 5) (gS l 0).b.length (nb ρ 5);[jp (nb ρ1 0) 3,.slice a2 l.length c2,vi 0,.pointer (fK a2 0),.slice (gS l 0).a (gS l 0).b.length (gS l 0).c,qa,vi 0,qa,vi 0]) (fun _=>[]) (fun ρ=>[(5,fun w=>Fs w0 w (oa ρ 5) (nb ρ 5) (gS l 0).b)]) (fun ρ=>(fun w=>bM w a c ([oT k false ka kc])∧bI w a2 c2 l∧Fs w0 w (oa ρ 5) (nb ρ 5) (gS l 0).b∧True)) (fun _=>True) (fun _ _ hF hf=>⟨⟨hF.1,hF.2.1,hf 5,trivial⟩,trivial⟩) (cR [[],[0],[]]<|cX (qF (fun _ _ _ hG=>bI.idx (k:=.i64) underlying29 sizeOf37 hG.fn.2.1 rfl (show (0:Int)=((0:Nat):Int) from rfl) (show 0<l.length from by omega)))<|cX (qF (fun _ _ _ hG=>bI.ld isAgg37 hG.fn.2.1 (show 0<l.length from by omega)))<|cX (qB (fun _ _ w hG=>xBB (gS l 0).a (gS l 0).c (gS l 0).b w (hG.fn.2.1.sub _ (oH (show 0<l.length from by omega)))))<|jE [[],[],[]]) (fun ρ5 _=>aF (mD [(2,(.slice (oa ρ5 5) (gS l 0).b.length (nb ρ5 5))),(3,(vi 0))] [] ?_)))))))))))))))
 exact mR (v:=(.tuple #[.slice (oa ρ5 5) (gS l 0).b.length (nb ρ5 5),vi 0])) (fun _ hS=>⟨oa ρ5 5,nb ρ5 5,congrArg Ending.returned (rfl),hS.bel,dU (rfl) hS.facts.now.2.2.1⟩)
theorem wsanew_any (p:Nat) (hpM:p<M) (hp:iY p=true) (w0:World) (hf0:kJ w0) (hf1:fU w0) (hfix:∀ (w0:World) (T:Nat→Prop) (_hT:∀ b,T b→b<w0.heap.size),Calls prog 26 #[] w0 (fun ε w'=>jG w0 w'∧∃ r:bH,ε=.returned (.slice r.a 1 (r.n.headD 0))∧mX w0.heap.size r.a∧mX w0.heap.size r.b∧dL T (fun w=>bM w r.a (r.n.headD 0) [oT (kP p) false r.b (r.n.tail.headD 0)]) w')):Calls prog 7 #[] w0 (jR vT w0):=by
 refine Calls.of_ok (n:=38) (F:=(fun w=>kJ w∧fU w∧True)) func7 rfl rfl rfl (by simp) (hf0.pers0.and (hf1.pers0.and cO)) (jJ f7 1 [0] [vF] (iZ f7 8 [0,1,2] [] (fun ρ=>let qa:Value:=.agg #[.slice (oa ρ 1) ([oT (kP p) false (fD ρ 1) (aZ ρ 1)]).length (nb ρ 1),vi 3,vi 0,.slice (lY ρ 1) (os ρ 1).length (lX ρ 1)];[.slice (oa ρ 0) ([oT (kP p) false (fD ρ 0) (aZ ρ 0)]).length (nb ρ 0),.tuple #[qa,vi 0],.tuple #[qa,vi 0],qa,vi 0,pt (nb ρ 5),undef,vi 0]) (fun ρ=>[(5,(nw ρ 5 (cL #[vz,vi 0,vi 0,vz] 31))),(6,(bD 40 (nb ρ 5) (cL #[.slice (oa ρ 1) ([oT (kP p) false (fD ρ 1) (aZ ρ 1)]).length (nb ρ 1),vi 3,vi 0,.slice (lY ρ 1) (os ρ 1).length (lX ρ 1)] 31)))]) (fun ρ=>[(0,fun w=>(bM w (oa ρ 0) (nb ρ 0) ([oT (kP p) false (fD ρ 0) (aZ ρ 0)])∧mX w0.heap.size (oa ρ 0)∧mX w0.heap.size (fD ρ 0))),(1,fun w=>(bM w (oa ρ 1) (nb ρ 1) ([oT (kP p) false (fD ρ 1) (aZ ρ 1)])∧bI w (lY ρ 1) (lX ρ 1) (os ρ 1)∧sB (os ρ 1)=gwB ([oT (kP p) false (fD ρ 0) (aZ ρ 0)]) 1))]) (fun ρ=>(fun w=>kJ w∧fU w∧bM w (oa ρ 0) (nb ρ 0) ([oT (kP p) false (fD ρ 0) (aZ ρ 0)])∧bM w (oa ρ 1) (nb ρ 1) ([oT (kP p) false (fD ρ 1) (aZ ρ 1)])∧bI w (lY ρ 1) (lX ρ 1) (os ρ 1)∧True)) (fun ρ=>(mX w0.heap.size (oa ρ 0)∧mX w0.heap.size (fD ρ 0))∧sB (os ρ 1)=gwB ([oT (kP p) false (fD ρ 0) (aZ ρ 0)]) 1) (fun _ _ hF hf=>⟨⟨hF.1,hF.2.1,(hf 0).1,(hf 1).1,(hf 1).2.1,trivial⟩,⟨(hf 0).2,(hf 1).2.2⟩⟩) (cX (qT1 (fun _ τ w hG=>hfix w  τ hG.lt))<|cX (qO (fun ρ τ w hG=>wnew_any (oa ρ 0) (nb ρ 0) (kP p) (fD ρ 0) (aZ ρ 0) 3 (kP_ok hpM) kP_rng (fx_vl hp) (fx_exE hp) (by decide) w (show (bM w (oa ρ 0) (nb ρ 0) ([oT (kP p) false (fD ρ 0) (aZ ρ 0)])∧mX w0.heap.size (oa ρ 0)∧mX w0.heap.size (fD ρ 0)) from (hG.facts 0 rfl).now).1 hG.fn.1 hG.fn.2.1 τ hG.lt))<|jE [[],[],[],[],[40],[]]) (fun ρ2 ⟨ap2_0,ap2_1⟩=>iZ f7 7 [0,1,2,3,4] [] (fun ρ=>let qa:Value:=.slice (oa ρ 1) (gS (os ρ2 1) 0).b.length (nb ρ 1);[.agg #[.slice (oa ρ2 1) ([oT (kP p) false (fD ρ2 1) (aZ ρ2 1)]).length (nb ρ2 1),vi 3,vi 0,.slice (lY ρ2 1) (os ρ2 1).length (lX ρ2 1)],.tuple #[qa,vi 0],.tuple #[qa,vi 0],qa,vi 0,qa,vi 0]) (fun _=>[]) (fun ρ=>[(1,fun w=>Fs w0 w (oa ρ 1) (nb ρ 1) (gS (os ρ2 1) 0).b)]) (fun ρ=>(fun w=>kJ w∧fU w∧bM w (oa ρ2 0) (nb ρ2 0) ([oT (kP p) false (fD ρ2 0) (aZ ρ2 0)])∧bM w (oa ρ2 1) (nb ρ2 1) ([oT (kP p) false (fD ρ2 1) (aZ ρ2 1)])∧bI w (lY ρ2 1) (lX ρ2 1) (os ρ2 1)∧Fs w0 w (oa ρ 1) (nb ρ 1) (gS (os ρ2 1) 0).b∧True)) (fun _=>True) (fun _ _ hF hf=>⟨⟨hF.1,hF.2.1,hF.2.2.1,hF.2.2.2.1,hF.2.2.2.2.1,hf 1,trivial⟩,trivial⟩) (cR [[0]]<|cX (qB (fun _ _ w hG=>wfresh_any (oa ρ2 1) (nb ρ2 1) (kP p) (fD ρ2 1) (aZ ρ2 1) 3 0 (lY ρ2 1) (lX ρ2 1) (os ρ2 1) (one_sc (ap2_1.trans (fx_gw hp))).1 w hG.fn.2.2.2.1 hG.fn.2.2.2.2.1))<|jE [[],[],[],[],[]]) (fun ρ3 _=>sS f7 24 [0] [0] (fun _=>let qa:Value:=.slice (oa ρ3 1) (gS (os ρ2 1) 0).b.length (nb ρ3 1);let qb:Value:=.slice (lY ρ2 1) (os ρ2 1).length (lX ρ2 1);[vi 0,vT,vT,jp (nb ρ2 5) 3,qb,vn (os ρ2 1).length,vT,vT,vT,qa,vn (gS (os ρ2 1) 0).b.length,vT,vT,vT,vi 0,vT,vT,vT,.agg #[.slice (oa ρ2 1) ([oT (kP p) false (fD ρ2 1) (aZ ρ2 1)]).length (nb ρ2 1),vi 3,vi 0,qb],qa,vi (tH (gS (os ρ2 1) 0).b (sB (os ρ2 1)) 0),vT,vT,vT]) (fun _=>[]) (cR [[],[],[],[],[0],[]]<|jQ (fun ρ=>((((os ρ2 1).length:Nat):Int)==1)) true (fun _=>(beq_t (by rw [(one_sc (ap2_1.trans (fx_gw hp))).1];rfl)))<|cR [[],[],[],[]]<|jQ (fun ρ=>((((gS (os ρ2 1) 0).b.length:Nat):Int)==35)) true (fun _=>(beq_t (by rw [(one_sc (ap2_1.trans (fx_gw hp))).2.1,sg_len];rfl)))<|cR [[],[],[],[],[],[],[0],[]]<|cX (qC (fun _ _ w hG=>xAG (.slice (oa ρ2 1) ([oT (kP p) false (fD ρ2 1) (aZ ρ2 1)]).length (nb ρ2 1)) 3 0 (lY ρ2 1) (lX ρ2 1) (os ρ2 1) (oa ρ3 1) (nb ρ3 1) (gS (os ρ2 1) 0).b w hG.fn.2.2.2.2.1 hG.fn.2.2.2.2.2.1.1))<|jQ (fun ρ=>((tH (gS (os ρ2 1) 0).b (sB (os ρ2 1)) 0)==0)) true (fun _=>(beq_t (one_sc (ap2_1.trans (fx_gw hp))).2.2))<|jE [[],[]]) (fun _=>aF ?_)))))
 exact mR (v:=vT) (fun _ hS=>⟨rfl,hS.bel⟩)
theorem wsane_any (w0:World) (hf0:kJ w0) (hf1:fU w0):Calls prog 7 #[] w0 (jR vT w0):=wsanew_any 4 four_M val_four w0 hf0 hf1 fixedw_any
def frc {α:Type} (x:Nat) (k:Nat→α):α:=match x with | 0=>k 0 | n+1=>k (Nat.succ n)
theorem frc_eq {α:Type} (x:Nat) (k:Nat→α):frc x k=k x:=by cases x<;>rfl
def fA (x y:Nat):Nat:=Nat.mod (Nat.add x y) 4294967296
def fR (x a b:Nat):Nat:=Nat.lor (Nat.mod (Nat.mul x a) 4294967296) (Nat.div x b)
def fB0 (x:Nat):Nat:=Nat.xor (Nat.xor (fR x 1073741824 4) (fR x 524288 8192)) (fR x 1024 4194304)
def fB1 (x:Nat):Nat:=Nat.xor (Nat.xor (fR x 67108864 64) (fR x 2097152 2048)) (fR x 128 33554432)
def fS0 (x:Nat):Nat:=Nat.xor (Nat.xor (fR x 33554432 128) (fR x 16384 262144)) (Nat.div x 8)
def fS1 (x:Nat):Nat:=Nat.xor (Nat.xor (fR x 32768 131072) (fR x 8192 524288)) (Nat.div x 1024)
def fT1 (K w e f g h:Nat):Nat:=fA (fA (fA (fA h (fB1 e)) (Nat.xor (Nat.land e f) (Nat.land (Nat.sub 4294967295 e) g))) K) w
def fT2 (a b c:Nat):Nat:=fA (fB0 a) (Nat.xor (Nat.xor (Nat.land a b) (Nat.land a c)) (Nat.land b c))
def fW (w0 w1 w9 w14:Nat):Nat:=fA (fA (fA w0 (fS0 w1)) w9) (fS1 w14)
theorem fT1_eq (K w e f g h:Nat):fT1 K w e f g h=t1N K w e f g h:=rfl
theorem fT2_eq (a b c:Nat):fT2 a b c=t2N a b c:=rfl
theorem fW_eq (X:List UInt8) (i:Nat):fW (wN X i) (wN X (i+1)) (wN X (i+9)) (wN X (i+14))=wN X (i+16):=by
 rw [wN_more (i:=i+16) (by omega)]
 rfl
def fgo:List Nat→Nat→Nat→Nat→Nat→Nat→Nat→Nat→Nat→Nat→Nat→Nat→Nat→Nat→Nat→Nat→Nat→Nat→Nat→Nat→Nat→Nat→Nat→Nat→Nat→nS
 | [],_,_,_,_,_,_,_,_,_,_,_,_,_,_,_,_,a,b,c,d,e,f,g,h=>(a,b,c,d,e,f,g,h)
 | K::r,w0,w1,w2,w3,w4,w5,w6,w7,w8,w9,w10,w11,w12,w13,w14,w15,a,b,c,d,e,f,g,h=>frc (fT1 K w0 e f g h) fun t=>frc (fA t (fT2 a b c)) fun x=>frc (fA d t) fun y=>frc (fW w0 w1 w9 w14) fun w16=>fgo r w1 w2 w3 w4 w5 w6 w7 w8 w9 w10 w11 w12 w13 w14 w15 w16 x a b c y e f g
theorem fgo_eq {X:List UInt8} {s:nS}:∀ {r:List Nat} {i a b c d e f g h:Nat},r=kL.drop i→i+r.length=64→rnds X s i=(a,b,c,d,e,f,g,h)→fgo r (wN X i) (wN X (i+1)) (wN X (i+2)) (wN X (i+3)) (wN X (i+4)) (wN X (i+5)) (wN X (i+6)) (wN X (i+7)) (wN X (i+8)) (wN X (i+9)) (wN X (i+10)) (wN X (i+11)) (wN X (i+12)) (wN X (i+13)) (wN X (i+14)) (wN X (i+15)) a b c d e f g h=rnds X s 64
 | [], i, a, b, c, d, e, f, g, h, _, hl, hs => by
   obtain rfl:i=64:=by simpa using hl
   rw [hs];rfl
 | K :: r, i, a, b, c, d, e, f, g, h, hr, hl, hs => by
   have hi:i<kL.length:=by
    rcases Nat.lt_or_ge i kL.length with h1 | h1
    ·exact h1
    ·rw [List.drop_eq_nil_of_le h1] at hr;exact absurd hr (by simp)
   rw [List.drop_eq_getElem_cons hi] at hr
   obtain ⟨hK,hr'⟩:=List.cons.inj hr
   have hK:K=kN i:=by unfold kN;rw [List.getD_eq_getElem?_getD,List.getElem?_eq_getElem hi];exact hK
   have ih:=fgo_eq (X:=X) (s:=s) hr' (by simp only [List.length_cons] at hl;omega) (rnds_next hs)
   rw [fgo,frc_eq,frc_eq,frc_eq,frc_eq,fW_eq,fT1_eq,fT2_eq,hK]
   exact ih
def fcmp (w0 w1 w2 w3 w4 w5 w6 w7 w8 w9 w10 w11 w12 w13 w14 w15 a b c d e f g h:Nat):nS:=addS (a,b,c,d,e,f,g,h) (fgo kL w0 w1 w2 w3 w4 w5 w6 w7 w8 w9 w10 w11 w12 w13 w14 w15 a b c d e f g h)
theorem fcmp_eq {X:List UInt8} {w0 w1 w2 w3 w4 w5 w6 w7 w8 w9 w10 w11 w12 w13 w14 w15 a b c d e f g h:Nat} (hw:(List.range 16).map (word X)=[w0,w1,w2,w3,w4,w5,w6,w7,w8,w9,w10,w11,w12,w13,w14,w15]):eF (a,b,c,d,e,f,g,h) X=fcmp w0 w1 w2 w3 w4 w5 w6 w7 w8 w9 w10 w11 w12 w13 w14 w15 a b c d e f g h:=by
 have hz:∀ j,j<16→wN X j=([w0,w1,w2,w3,w4,w5,w6,w7,w8,w9,w10,w11,w12,w13,w14,w15]:List Nat).getD j 0:=fun j hj=>by
  rw [← hw,wN_word hj,List.getD_eq_getElem?_getD,List.getElem?_map,List.getElem?_range hj];rfl
 have h0:=fgo_eq (X:=X) (s:=(a,b,c,d,e,f,g,h)) (r:=kL) (i:=0) rfl rfl rfl
 rw [show wN X 0=w0 from hz 0 (by decide),show wN X (0+1)=w1 from hz 1 (by decide),show wN X (0+2)=w2 from hz 2 (by decide),show wN X (0+3)=w3 from hz 3 (by decide),show wN X (0+4)=w4 from hz 4 (by decide),show wN X (0+5)=w5 from hz 5 (by decide),show wN X (0+6)=w6 from hz 6 (by decide),show wN X (0+7)=w7 from hz 7 (by decide),show wN X (0+8)=w8 from hz 8 (by decide),show wN X (0+9)=w9 from hz 9 (by decide),show wN X (0+10)=w10 from hz 10 (by decide),show wN X (0+11)=w11 from hz 11 (by decide),show wN X (0+12)=w12 from hz 12 (by decide),show wN X (0+13)=w13 from hz 13 (by decide),show wN X (0+14)=w14 from hz 14 (by decide),show wN X (0+15)=w15 from hz 15 (by decide)] at h0
 unfold eF fcmp
 rw [h0]
theorem gB_hL {A k:Nat} (h:k<32):gB (hL A) k=bN A k:=by
 unfold gB hL
 rw [List.getD_eq_getElem?_getD,List.getElem?_map,List.getElem?_range h]
 have h1:nR A k=((bN A k:Nat):Int):=rfl
 have h2:=rU A k
 have h3:=ob_nat (x:=nR A k) (by rw [h1];omega)
 show (ob (nR A k)).toNat=_
 omega
theorem bN_small {p k:Nat} (hp:p<256) (hk:k<32):bN p k=if k=31 then p else 0:=by
 unfold bN
 split
 ·rename_i h; subst h
  rw [Nat.sub_self,Nat.pow_zero,Nat.div_one];exact Nat.mod_eq_of_lt hp
 ·rename_i h
  have:256^1≤256^(31-k):=Nat.pow_le_pow_right (by decide) (by omega)
  rw [Nat.div_eq_of_lt (by omega)]
theorem gB_blk {n p k:Nat} (hn:n<256) (hp:p<256) (hk:k<64):gB (hL (hs2 n 0)++hL p) k=if k=0 then n else if k=63 then p else 0:=by
 rcases Nat.lt_or_ge k 32 with h | h
 ·rw [gB_app_l (hL p) (by rw [aO]; exact h), gB_hL h, hs2_byt hn (by decide) k h]
  split
  ·rfl
  ·rw [if_neg (by omega: ¬ k=63)];split<;>rfl
 ·obtain ⟨j, rfl⟩ := Nat.exists_eq_add_of_le h
  have e:=gB_app_r (hL (hs2 n 0)) (hL p) j
  rw [aO] at e
  rw [e,gB_hL (by omega),bN_small hp (by omega),if_neg (by omega: ¬ 32+j=0)]
  split
  ·rename_i h1;subst h1;rfl
  ·rename_i h1;rw [if_neg (by omega: ¬ 32+j=63)]
theorem words_blk {n p:Nat} (hn:n<256) (hp:p<256):(List.range 16).map (word (hL (hs2 n 0)++hL p))=[(((n*256+0)*256+0)*256+0),0,0,0,0,0,0,0,0,0,0,0,0,0,0,(((0*256+0)*256+0)*256+p)]:=by
 have h:(List.range 16).map (word (hL (hs2 n 0)++hL p))=(List.range 16).map (fun j=>(((if 4*j=0 then n else if 4*j=63 then p else 0)*256+(if 4*j+1=0 then n else if 4*j+1=63 then p else 0))*256+(if 4*j+2=0 then n else if 4*j+2=63 then p else 0))*256+(if 4*j+3=0 then n else if 4*j+3=63 then p else 0)) :=
  List.map_congr_left (fun j hj=>by
   have hj:=List.mem_range.1 hj
   unfold word
   rw [gB_blk hn hp (by omega),gB_blk hn hp (by omega),gB_blk hn hp (by omega),gB_blk hn hp (by omega)])
 exact h.trans (by kernel_rfl)
theorem words_end {i:Nat} (hi:i<5):(List.range 16).map (word (leB i 4++aY 132))=[(i*16777216),2147483648,0,0,0,0,0,0,0,0,0,0,0,0,0,1056]:=by
 rcases i with _ | _ | _ | _ | _ | i
 ·kernel_rfl
 ·kernel_rfl
 ·kernel_rfl
 ·kernel_rfl
 ·kernel_rfl
 ·omega
theorem tgS_sha:xAO tgS=xBL (4084201651,1191959378,2640878972,1900339392,4041343952,3895335367,1448052332,593247181):=by
 have hl:(xBN tgS).length / 64=0+1:=by kernel_rfl
 unfold xAO
 rw [hl,xBK,xBK]
 have h:eF (0x6a09e667,0xbb67ae85,0x3c6ef372,0xa54ff53a,0x510e527f,0x9b05688c,0x1f83d9ab,0x5be0cd19) (mid (xBN tgS) (64*0) (64*0+64))=(4084201651,1191959378,2640878972,1900339392,4041343952,3895335367,1448052332,593247181):=by
  rw [fcmp_eq (show (List.range 16).map (word (mid (xBN tgS) (64*0) (64*0+64)))=[1818847080,1952672873,1701737519,1936680564,2147483648,0,0,0,0,0,0,0,0,0,0,128] by kernel_rfl)]
  kernel_rfl
 exact congrArg xBL h
theorem tgS_st:eF init8 (xAO tgS++xAO tgS)=(992111796,4003939610,533611832,544471139,4275892873,3078215023,4268318003,2153843462):=by
 rw [tgS_sha]
 have h:eF (0x6a09e667,0xbb67ae85,0x3c6ef372,0xa54ff53a,0x510e527f,0x9b05688c,0x1f83d9ab,0x5be0cd19) (xBL (4084201651,1191959378,2640878972,1900339392,4041343952,3895335367,1448052332,593247181)++xBL (4084201651,1191959378,2640878972,1900339392,4041343952,3895335367,1448052332,593247181))=(992111796,4003939610,533611832,544471139,4275892873,3078215023,4268318003,2153843462):=by
  rw [fcmp_eq (show (List.range 16).map (word (xBL (4084201651,1191959378,2640878972,1900339392,4041343952,3895335367,1448052332,593247181)++xBL (4084201651,1191959378,2640878972,1900339392,4041343952,3895335367,1448052332,593247181)))=[4084201651,1191959378,2640878972,1900339392,4041343952,3895335367,1448052332,593247181,4084201651,1191959378,2640878972,1900339392,4041343952,3895335367,1448052332,593247181] by kernel_rfl)]
  kernel_rfl
 exact h
theorem tag_st {T A B C:List UInt8} (hT:T.length=32) (hA:A.length=32) (hB:B.length=32) (hC:C.length=4):xBK (xBN ((T++T)++((A++B)++C))) ((xBN ((T++T)++((A++B)++C))).length / 64)=eF (eF (eF init8 (T++T)) (A++B)) (C++aY 132):=by
 have hl:((T++T)++((A++B)++C)).length=132:=by simp only [List.length_append];omega
 have hm:xBN ((T++T)++((A++B)++C))=(T++T)++((A++B)++(C++aY 132)):=by
  unfold xBN;rw [hl];simp only [List.append_assoc]
 have hp:(aY 132).length=60:=by rw [yG];rfl
 have hn:((T++T)++((A++B)++(C++aY 132))).length / 64=3:=by simp only [List.length_append];omega
 rw [hm,hn,xBK,xBK,xBK,xBK]
 have e0:mid ((T++T)++((A++B)++(C++aY 132))) (64*0) (64*0+64)=T++T:=by
  have:=mid_at (P:=[]) (X:=T++T) (Q:=(A++B)++(C++aY 132)) (l:=0) (h:=64) rfl (by simp only [List.length_append];omega)
  rwa [List.nil_append] at this
 have e1:mid ((T++T)++((A++B)++(C++aY 132))) (64*1) (64*1+64)=A++B:=by
  have:=mid_at (P:=T++T) (X:=A++B) (Q:=C++aY 132) (l:=64) (h:=128) (by simp only [List.length_append];omega) (by simp only [List.length_append];omega)
  rwa [List.append_assoc (T++T)] at this
 have e2:mid ((T++T)++((A++B)++(C++aY 132))) (64*2) (64*2+64)=C++aY 132:=by
  have:=mid_at (P:=(T++T)++(A++B)) (X:=C++aY 132) (Q:=[]) (l:=128) (h:=192) (by simp only [List.length_append];omega) (by simp only [List.length_append];omega)
  rwa [List.append_nil,List.append_assoc (T++T)] at this
 rw [e0,e1,e2]
def ckA:nS→Bool
 | (x,_)=> !(Nat.beq x 2147483647||Nat.beq x 4294967295)
def ck2 (i a b c d e f g h:Nat):Bool:=ckA (fcmp (i*16777216) 2147483648 0 0 0 0 0 0 0 0 0 0 0 0 0 1056 a b c d e f g h)
def ck5 (a b c d e f g h:Nat):Bool:=ck2 0 a b c d e f g h&&(ck2 1 a b c d e f g h&&(ck2 2 a b c d e f g h&&(ck2 3 a b c d e f g h&&ck2 4 a b c d e f g h)))
def ckF:nS→Bool
 | (a,b,c,d,e,f,g,h)=>frc a fun a=>frc b fun b=>frc c fun c=>frc d fun d=>frc e fun e=>frc f fun f=>frc g fun g=>frc h fun h=>ck5 a b c d e f g h
def ck1 (n p:Nat):Bool:=ckF (fcmp (((n*256+0)*256+0)*256+0) 0 0 0 0 0 0 0 0 0 0 0 0 0 0 (((0*256+0)*256+0)*256+p) 992111796 4003939610 533611832 544471139 4275892873 3078215023 4268318003 2153843462)
def ckN:Nat→Nat→Bool
 | 0,_=>true
 | m+1,n=>ck1 n 4&&(ck1 n 16&&(ck1 n 64&&ckN m (Nat.succ n)))
theorem kX:∀ {m n j:Nat},ckN m n=true→n≤j→j<n+m→ck1 j 4=true∧ck1 j 16=true∧ck1 j 64=true
 | 0,n,j,_,h1,h2=>absurd h1 (by omega)
 | m + 1, n, j, h, h1, h2 => by
   unfold ckN at h
   simp only [Bool.and_eq_true] at h
   rcases Nat.eq_or_lt_of_le h1 with rfl | h3
   ·exact ⟨h.1,h.2.1,h.2.2.1⟩
   ·exact kX h.2.2.2 h3 (by omega)
theorem ck5_get {a b c d e f g h i:Nat} (hc:ck5 a b c d e f g h=true) (hi:i<5):ck2 i a b c d e f g h=true:=by
 unfold ck5 at hc
 simp only [Bool.and_eq_true] at hc
 have e:i=0∨i=1∨i=2∨i=3∨i=4:=by omega
 rcases e with e | e | e | e | e
 ·rw [e];exact hc.1
 ·rw [e];exact hc.2.1
 ·rw [e];exact hc.2.2.1
 ·rw [e];exact hc.2.2.2.1
 ·rw [e];exact hc.2.2.2.2
theorem ck1_get {n p i:Nat} (hn:n<256) (hp:p<256) (hi:i<5) (h:ck1 n p=true):ckA (xBK (xBN ((xAO tgS++xAO tgS)++((hL (hs2 n 0)++hL p)++leB i 4))) ((xBN ((xAO tgS++xAO tgS)++((hL (hs2 n 0)++hL p)++leB i 4))).length / 64))=true:=by
 rw [tag_st (xBM _) (aO _) (aO _) (eQ _ _),tgS_st,fcmp_eq (words_blk hn hp)]
 unfold ck1 at h
 generalize fcmp (((n*256+0)*256+0)*256+0) 0 0 0 0 0 0 0 0 0 0 0 0 0 0 (((0*256+0)*256+0)*256+p) 992111796 4003939610 533611832 544471139 4275892873 3078215023 4268318003 2153843462=s at h
 obtain ⟨a,b,c,d,e,f,g,h'⟩:=s
 have h1:ck5 a b c d e f g h'=true:=by
  have e:ckF (a,b,c,d,e,f,g,h')=ck5 a b c d e f g h':=by
   simp only [ckF,frc_eq]
  rw [← e];exact h
 have h2:=ck5_get h1 hi
 rw [fcmp_eq (words_end hi)]
 exact h2
theorem ckT_0:ckN 8 0=true:=by kernel_rfl
theorem ckT_1:ckN 8 8=true:=by kernel_rfl
theorem ckT_2:ckN 8 16=true:=by kernel_rfl
theorem ckT_3:ckN 8 24=true:=by kernel_rfl
theorem ckT_4:ckN 8 32=true:=by kernel_rfl
theorem ckT_5:ckN 8 40=true:=by kernel_rfl
theorem ckT_6:ckN 8 48=true:=by kernel_rfl
theorem ckT_7:ckN 8 56=true:=by kernel_rfl
theorem ckT_8:ckN 8 64=true:=by kernel_rfl
theorem ckT_9:ckN 8 72=true:=by kernel_rfl
theorem ckT_10:ckN 8 80=true:=by kernel_rfl
theorem ckT_11:ckN 8 88=true:=by kernel_rfl
theorem ckT_12:ckN 8 96=true:=by kernel_rfl
theorem ckT_13:ckN 8 104=true:=by kernel_rfl
theorem ckT_14:ckN 8 112=true:=by kernel_rfl
theorem ckT_15:ckN 8 120=true:=by kernel_rfl
theorem ckT_16:ckN 8 128=true:=by kernel_rfl
theorem ckT_17:ckN 8 136=true:=by kernel_rfl
theorem ckT_18:ckN 8 144=true:=by kernel_rfl
theorem ckT_19:ckN 8 152=true:=by kernel_rfl
theorem ckT_20:ckN 8 160=true:=by kernel_rfl
theorem ckT_21:ckN 8 168=true:=by kernel_rfl
theorem ckT_22:ckN 8 176=true:=by kernel_rfl
theorem ckT_23:ckN 8 184=true:=by kernel_rfl
theorem ckT_24:ckN 8 192=true:=by kernel_rfl
theorem ckT_25:ckN 8 200=true:=by kernel_rfl
theorem ckT_26:ckN 8 208=true:=by kernel_rfl
theorem ckT_27:ckN 8 216=true:=by kernel_rfl
theorem ckT_28:ckN 8 224=true:=by kernel_rfl
theorem ckT_29:ckN 8 232=true:=by kernel_rfl
theorem ckT_30:ckN 8 240=true:=by kernel_rfl
theorem ckT_31:ckN 8 248=true:=by kernel_rfl
theorem ck_all {j : Nat} (h : j < 256) : ck1 j 4 = true ∧ ck1 j 16 = true ∧ ck1 j 64 = true := by
 rcases Nat.lt_or_ge j 128 with h16 | h16
 ·rcases Nat.lt_or_ge j 64 with h8 | h8
  ·rcases Nat.lt_or_ge j 32 with h4 | h4
   ·rcases Nat.lt_or_ge j 16 with h2 | h2
    ·rcases Nat.lt_or_ge j 8 with h1 | h1
     ·exact kX ckT_0 (by omega) (by omega)
     exact kX ckT_1 (by omega) (by omega)
    rcases Nat.lt_or_ge j 24 with h3 | h3
    ·exact kX ckT_2 (by omega) (by omega)
    exact kX ckT_3 (by omega) (by omega)
   rcases Nat.lt_or_ge j 48 with h6 | h6
   ·rcases Nat.lt_or_ge j 40 with h5 | h5
    ·exact kX ckT_4 (by omega) (by omega)
    exact kX ckT_5 (by omega) (by omega)
   rcases Nat.lt_or_ge j 56 with h7 | h7
   ·exact kX ckT_6 (by omega) (by omega)
   exact kX ckT_7 (by omega) (by omega)
  rcases Nat.lt_or_ge j 96 with h12 | h12
  ·rcases Nat.lt_or_ge j 80 with h10 | h10
   ·rcases Nat.lt_or_ge j 72 with h9 | h9
    ·exact kX ckT_8 (by omega) (by omega)
    exact kX ckT_9 (by omega) (by omega)
   rcases Nat.lt_or_ge j 88 with h11 | h11
   ·exact kX ckT_10 (by omega) (by omega)
   exact kX ckT_11 (by omega) (by omega)
  rcases Nat.lt_or_ge j 112 with h14 | h14
  ·rcases Nat.lt_or_ge j 104 with h13 | h13
   ·exact kX ckT_12 (by omega) (by omega)
   exact kX ckT_13 (by omega) (by omega)
  rcases Nat.lt_or_ge j 120 with h15 | h15
  ·exact kX ckT_14 (by omega) (by omega)
  exact kX ckT_15 (by omega) (by omega)
 rcases Nat.lt_or_ge j 192 with h24 | h24
 ·rcases Nat.lt_or_ge j 160 with h20 | h20
  ·rcases Nat.lt_or_ge j 144 with h18 | h18
   ·rcases Nat.lt_or_ge j 136 with h17 | h17
    ·exact kX ckT_16 (by omega) (by omega)
    exact kX ckT_17 (by omega) (by omega)
   rcases Nat.lt_or_ge j 152 with h19 | h19
   ·exact kX ckT_18 (by omega) (by omega)
   exact kX ckT_19 (by omega) (by omega)
  rcases Nat.lt_or_ge j 176 with h22 | h22
  ·rcases Nat.lt_or_ge j 168 with h21 | h21
   ·exact kX ckT_20 (by omega) (by omega)
   exact kX ckT_21 (by omega) (by omega)
  rcases Nat.lt_or_ge j 184 with h23 | h23
  ·exact kX ckT_22 (by omega) (by omega)
  exact kX ckT_23 (by omega) (by omega)
 rcases Nat.lt_or_ge j 224 with h28 | h28
 ·rcases Nat.lt_or_ge j 208 with h26 | h26
  ·rcases Nat.lt_or_ge j 200 with h25 | h25
   ·exact kX ckT_24 (by omega) (by omega)
   exact kX ckT_25 (by omega) (by omega)
  rcases Nat.lt_or_ge j 216 with h27 | h27
  ·exact kX ckT_26 (by omega) (by omega)
  exact kX ckT_27 (by omega) (by omega)
 rcases Nat.lt_or_ge j 240 with h30 | h30
 ·rcases Nat.lt_or_ge j 232 with h29 | h29
  ·exact kX ckT_28 (by omega) (by omega)
  exact kX ckT_29 (by omega) (by omega)
 rcases Nat.lt_or_ge j 248 with h31 | h31
 ·exact kX ckT_30 (by omega) (by omega)
 exact kX ckT_31 (by omega) (by omega)
theorem gB_dig {s:nS} {k:Nat} (h:k<32):gB (xBL s) k=iT s (k / 4) / 2^(24-k%4*8)%256:=by
 unfold gB xBL
 rw [List.getD_eq_getElem?_getD,List.getElem?_map,List.getElem?_range h]
 have h2:iT s (k / 4) / 2^(24-k%4*8)%256<256:=Nat.mod_lt _ (by decide)
 have h3:=ob_nat (x:=((iT s (k / 4) / 2^(24-k%4*8)%256:Nat):Int)) (by omega)
 show (ob _).toNat=_
 omega
theorem dig_top {x b c d e f g h:Nat} (hx:x<4294967296):nB (xBL (x,b,c,d,e,f,g,h)) / 256^28=x:=by
 have hb:∀ k,k<32→bN (nB (xBL (x,b,c,d,e,f,g,h))) k=iT (x,b,c,d,e,f,g,h) (k / 4) / 2^(24-k%4*8)%256:=fun k hk=>by
  rw [← gB_hL hk,hL_nB (xAJ _),gB_dig hk]
 have hM:=nB_M (xAJ (x,b,c,d,e,f,g,h))
 generalize nB (xBL (x,b,c,d,e,f,g,h))=D at hb hM
 have h0:D / 256^31%256=x / 16777216%256:=hb 0 (by decide)
 have h1:D / 256^30%256=x / 65536%256:=hb 1 (by decide)
 have h2:D / 256^29%256=x / 256%256:=hb 2 (by decide)
 have h3:D / 256^28%256=x / 1%256:=hb 3 (by decide)
 have e1:D / 256^29=D / 256^28 / 256:=by rw [Nat.div_div_eq_div_mul,← Nat.pow_succ]
 have e2:D / 256^30=D / 256^28 / 256 / 256:=by rw [← e1,Nat.div_div_eq_div_mul,← Nat.pow_succ]
 have e3:D / 256^31=D / 256^28 / 256 / 256 / 256:=by rw [← e2,Nat.div_div_eq_div_mul,← Nat.pow_succ]
 have hl:D / 256^28<4294967296:=by
  rw [Nat.div_lt_iff_lt_mul (Nat.pow_pos (by decide))]
  exact Nat.lt_of_lt_of_eq hM (by rw [mQ])
 rw [e3] at h0;rw [e2] at h1;rw [e1] at h2
 generalize D / 256^28=y at *
 omega
theorem far {t x:Nat} (ht:t<M) (h:t / 256^28=x) (h1:x≠2147483647) (h2:x≠4294967295):t%qP+3<qP:=by
 have hp:(256:Nat)^28=26959946667150639794667015087019630673637144422540572481103610249216:=by decide
 rw [hp] at h
 rw [mQ] at ht
 have hq:qP=57896044618658097711785492504343953926634992332820282019728792003956564801911:=by unfold qP;decide
 rw [hq]
 have hd:t / 57896044618658097711785492504343953926634992332820282019728792003956564801911=0∨t / 57896044618658097711785492504343953926634992332820282019728792003956564801911=1∨t / 57896044618658097711785492504343953926634992332820282019728792003956564801911=2:=by omega
 omega
theorem pow_small {j:Nat} (hj:j=1∨j=2∨j=3):bK 4 j pP=4^j:=by
 rw [pJ]
 rcases hj with rfl | rfl | rfl<;>(unfold pP;decide)
theorem val_pow {j:Nat} (hj:j=1∨j=2∨j=3):iY (4^j)=true:=by
 rw [← pow_small hj]
 exact val_pub (by unfold iM;rw [decide_eq_true_eq];have:=qP_pos;rcases hj with rfl | rfl | rfl<;>exact ⟨by decide,by unfold qP;decide⟩)
theorem tw_ok {j t:Nat} (hj:j=1∨j=2∨j=3) (h:t%qP+3<qP):wY (4^j) t=0:=by
 unfold wY
 rw [if_pos (val_pow hj)]
 have e:twO (4^j) t=4^(j+t%qP)%pP:=by
  unfold twO bV
  rw [if_neg (by have:=pF;omega),addm_q,Nat.add_zero,pJ,Nat.mul_mod,Nat.mod_mod,← Nat.mul_mod,← Nat.pow_add]
 rw [if_neg]
 rw [e]
 exact xBO (by omega) (by omega)
theorem kR_cases (z:Int):∃ j,(j=1∨j=2∨j=3)∧(kR z).p=4^j:=by
 have h:=iG z (n:=3) (by decide)
 have e:(kR z).p=(shlW 4 (2*(dm z 3))).toNat:=rfl
 rw [e]
 generalize dm z 3=m at h
 have hm:m=0∨m=1∨m=2:=by omega
 rcases hm with rfl | rfl | rfl
 ·exact ⟨1,Or.inl rfl,by kernel_rfl⟩
 ·exact ⟨2,Or.inr (Or.inl rfl),by kernel_rfl⟩
 ·exact ⟨3,Or.inr (Or.inr rfl),by kernel_rfl⟩
theorem kR_st {z:Int} {i:Nat} (hi:i<5):stE (kR z) i=0:=by
 obtain ⟨j,hj,hp⟩:=kR_cases z
 have hh:hdB i=false:=decide_eq_false (by omega)
 have hs:(kR z).s=0:=rfl
 have hd:(kR z).d=0:=rfl
 have hc:(kR z).c=hs2 (u8z z) 0:=rfl
 unfold stE
 rw [hd,hs,hh,if_neg (by decide),if_neg (by simp),if_pos rfl,hp]
 refine tw_ok hj ?_
 have et:bT (kR z) i=nB (xBL (xBK (xBN ((xAO tgS++xAO tgS)++((hL (hs2 (u8z z) 0)++hL (4^j))++leB i 4))) ((xBN ((xAO tgS++xAO tgS)++((hL (hs2 (u8z z) 0)++hL (4^j))++leB i 4))).length / 64))):=by
  unfold bT
  rw [hh,if_neg (by decide),hc,hp];rfl
 have hk:=ck_all (u8z_lt z)
 have hp2:4^j<256:=by rcases hj with rfl | rfl | rfl<;>decide
 have h1:ck1 (u8z z) (4^j)=true:=by
  rcases hj with rfl | rfl | rfl
  ·exact hk.1
  ·exact hk.2.1
  ·exact hk.2.2
 have h2:=ck1_get (u8z_lt z) hp2 hi h1
 rw [et]
 have hok:=xA (xBN ((xAO tgS++xAO tgS)++((hL (hs2 (u8z z) 0)++hL (4^j))++leB i 4))) ((xBN ((xAO tgS++xAO tgS)++((hL (hs2 (u8z z) 0)++hL (4^j))++leB i 4))).length / 64)
 generalize xBK (xBN ((xAO tgS++xAO tgS)++((hL (hs2 (u8z z) 0)++hL (4^j))++leB i 4))) ((xBN ((xAO tgS++xAO tgS)++((hL (hs2 (u8z z) 0)++hL (4^j))++leB i 4))).length / 64)=s at h2 hok
 obtain ⟨x,b,c,d,e,f,g,h⟩:=s
 have hx:x<4294967296:=hok.1
 have h3:(!(Nat.beq x 2147483647||Nat.beq x 4294967295))=true:=h2
 simp only [Bool.not_eq_true',Bool.or_eq_false_iff] at h3
 exact far (nB_M (xAJ _)) (dig_top hx) (fun e=>by rw [e] at h3;exact absurd h3.1 (by decide)) (fun e=>by rw [e] at h3;exact absurd h3.2 (by decide))
theorem kR_snd (z:Int):fC (kR z)=true:=by
 obtain ⟨j,hj,hp⟩:=kR_cases z
 have hs:(kR z).s=0:=rfl
 have hd:(kR z).d=0:=rfl
 unfold fC
 rw [hd,hs,hp,val_pow hj];rfl
theorem kR_dr {z:Int} {i:Nat} (hi:i<5):nM (kR z) [i]=0:=by
 unfold nM
 rw [if_pos (kR_snd z)]
 unfold dvE
 rw [if_pos (kR_st hi)];rfl
theorem kR_ky {z:Int} {i:Nat} (hi:i<5):kZ [oT (kR z) true none 0] ((i:Nat):Int)=0:=by
 unfold kZ
 rw [if_pos (oT_vl (kR_snd z) (by show (0:Int)+(((if true=true then 1 else 0:Nat):Nat):Int)≤8;decide)),if_pos ⟨by omega,by omega⟩,oT_aK]
 unfold uU
 have e:(pT (kR z) true).k=kR z:=rfl
 rw [e,ix_b rfl rfl,Int.toNat_natCast,if_pos (kR_dr hi)]
 rfl
theorem oE_zero {z:Int} {i:Nat} (hi:i<5):oE (kR z) i=0:=by
 have hk:=kR_ky (z:=z) hi
 unfold oE pX
 rw [if_pos hk]
 have e:(xP [oT (kR z) true none 0] ((i:Nat):Int)).length=35:=by
  unfold xP gV
  rw [if_pos hk,oT_aK]
  unfold xE
  rw [List.map_cons,List.map_nil]
  generalize dO.pn (((i:Nat):Int).toNat) (pT (kR z) true)=y
  exact sg_len y
 rw [e];rfl
theorem ok5 (z:Int):y8 (oE (kR z)) 5:=fun _ hi=>oE_zero hi
theorem rsameWU_any (a:Option Addr) (c:Nat) (k:Ky) (ka:Option Addr) (kc:Nat) (b2:Option Addr) (d2:Nat) (kb:Option Addr) (kd:Nat) (u v:Nat) (a2:Option Addr) (c2:Nat) (l:List bU) (a3:Option Addr) (c3:Nat) (m:List bU) (hk:k.Ok) (hd:rng k.d) (hu:u=v) (h1:sB l=gX (oX k) (u+2)) (h2:sB m=gX (oX k) (v+2)) (w0:World) (hf0:bM w0 a c ([oT k true ka kc])) (hf1:bM w0 b2 d2 ([oT k true kb kd])) (hf2:bI w0 a2 c2 l) (hf3:bI w0 a3 c3 m):Calls prog 13 #[.agg #[.slice a ([oT k true ka kc]).length c,.int .i64 2,.int .i64 ((u:Nat):Int),.slice a2 l.length c2],.agg #[.slice b2 ([oT k true kb kd]).length d2,.int .i64 2,.int .i64 ((v:Nat):Int),.slice a3 m.length c3]] w0 (jR vT w0):=by
 subst hu
 exact rsameW_any a c k true ka kc b2 d2 kb kd _ _ a2 c2 l a3 c3 m hk hd (h1.trans h2.symm) w0 hf0 hf1 hf2 hf3
theorem watchOrderw_any (k:Ky) (z:Int) (ia:Option Addr) (ic:Nat) (U:List Int) (hk:k.Ok) (hd:rng k.d) (hs:fC k=true) (hw:k.d+(pT k true).w1≤8) (ho:y8 (oE k) 5) (hU:Z64 U) (w0:World) (hf0:kJ w0) (hf1:fU w0) (hf2:Is w0 .i64 ia ic U) (hran:∀ (w0:World) (T:Nat→Prop) (_hT:∀ b,T b→b<w0.heap.size),Calls prog 14 #[vi z] w0 (fun ε w'=>jG w0 w'∧∃ r:bH,ε=.returned (.slice r.a 1 (r.n.headD 0))∧mX w0.heap.size r.a∧mX w0.heap.size r.b∧dL T (fun w=>bM w r.a (r.n.headD 0) [oT k true r.b (r.n.tail.headD 0)]) w')):Calls prog 5 #[vi z,.slice ia U.length ic] w0 (jR vT w0):=by
 refine Calls.of_ok (n:=154) (F:=(fun w=>kJ w∧fU w∧Is w .i64 ia ic U∧True)) func5 rfl rfl rfl (by simp) (hf0.pers0.and (hf1.pers0.and (hf2.pers0.and cO))) ?_
 have hlU:U.length≤140737488351232:=hf2.max
 refine jJ f5 1 [0,1,4] [vF] (aB (sS f5 2 [0,1,4,28] [] (fun _=>[vT,vF]) (fun _=>[]) (cX (qC (fun _ _ w hG=>wsane_any w hG.fn.1 hG.fn.2.1))<|jE [[]]) (fun _=>oN (aG (aA (aB (jJ f5 3 [0,1,4,31] [.slice ia U.length ic,vn U.length,.bool (decide (3<((U.length:Nat):Int)))] (oC (decide (3<((U.length:Nat):Int))) (fun hb1=>?_) (fun hb1=>?_)))))))))
 ·rw [hb1]
  refine jJ f5 1 [0,1,4] [vT] (aF (aC ?_))
  exact mR (v:=vT) (fun _ hS=>⟨rfl,hS.bel⟩)
 rw [hb1]
 have:=yF hb1
 refine aG (aA (iZ f5 3 [1,4,5] [] (fun ρ=>let qa:Value:=.slice (oa ρ 1) ([oT k true (fD ρ 1) (aZ ρ 1)]).length (nb ρ 1);[vi z,qa,qa]) (fun _=>[]) (fun ρ=>[(1,fun w=>(bM w (oa ρ 1) (nb ρ 1) ([oT k true (fD ρ 1) (aZ ρ 1)])∧mX w0.heap.size (oa ρ 1)∧mX w0.heap.size (fD ρ 1)))]) (fun ρ=>(fun w=>kJ w∧fU w∧Is w .i64 ia ic U∧bM w (oa ρ 1) (nb ρ 1) ([oT k true (fD ρ 1) (aZ ρ 1)])∧True)) (fun ρ=>(mX w0.heap.size (oa ρ 1)∧mX w0.heap.size (fD ρ 1))) (fun _ _ hF hf=>⟨⟨hF.1,hF.2.1,hF.2.2.1,(hf 1).1,trivial⟩,(hf 1).2⟩) (cR [[]]<|cX (qT1 (fun _ τ w hG=>hran w  τ hG.lt))<|jE [[]]) (fun ρ5 ap5_1=>iZ f5 8 [1,4,5,6,7] [] (fun ρ=>let qa:Value:=.agg #[.slice (oa ρ 1) ([oT k true (fD ρ 1) (aZ ρ 1)]).length (nb ρ 1),vi 2,vi 0,.slice (lY ρ 1) (os ρ 1).length (lX ρ 1)];[.slice (oa ρ5 1) ([oT k true (fD ρ5 1) (aZ ρ5 1)]).length (nb ρ5 1),.tuple #[qa,vi 0],.tuple #[qa,vi 0],qa,vi 0,pt (nb ρ 5),undef,vi 0]) (fun ρ=>[(5,(nw ρ 5 (cL #[vz,vi 0,vi 0,vz] 31))),(6,(bD 40 (nb ρ 5) (cL #[.slice (oa ρ 1) ([oT k true (fD ρ 1) (aZ ρ 1)]).length (nb ρ 1),vi 2,vi 0,.slice (lY ρ 1) (os ρ 1).length (lX ρ 1)] 31)))]) (fun ρ=>[(1,fun w=>(bM w (oa ρ 1) (nb ρ 1) ([oT k true (fD ρ 1) (aZ ρ 1)])∧bI w (lY ρ 1) (lX ρ 1) (os ρ 1)∧sB (os ρ 1)=gX (oX k) 2))]) (fun ρ=>(fun w=>kJ w∧fU w∧Is w .i64 ia ic U∧bM w (oa ρ5 1) (nb ρ5 1) ([oT k true (fD ρ5 1) (aZ ρ5 1)])∧bM w (oa ρ 1) (nb ρ 1) ([oT k true (fD ρ 1) (aZ ρ 1)])∧bI w (lY ρ 1) (lX ρ 1) (os ρ 1)∧True)) (fun ρ=>sB (os ρ 1)=gX (oX k) 2) (fun _ _ hF hf=>⟨⟨hF.1,hF.2.1,hF.2.2.1,hF.2.2.2.1,(hf 1).1,(hf 1).2.1,trivial⟩,(hf 1).2.2⟩) (cR [[]]<|cX (qO (fun _ τ w hG=>wnewR_any (oa ρ5 1) (nb ρ5 1) k (fD ρ5 1) (aZ ρ5 1) 2 hk hd (oT_vl hs hw) ⟨Nat.le_of_ble_eq_true rfl,Nat.le_of_ble_eq_true rfl⟩ (ho.le (Nat.le_of_ble_eq_true rfl)) w hG.fn.2.2.2.1 hG.fn.1 hG.fn.2.1 τ hG.lt))<|jE [[],[],[],[],[40],[]]) (fun ρ6 ap6_1=>aB (xAN (p:=(os ρ6 1).length=2) (fun w hF=>sB_gX ap6_1) (fun hE2=>sS f5 8 [1,4,5,6,46] [] (fun _=>[vi 0,vF,vF,jp (nb ρ6 5) 3,.slice (lY ρ6 1) (os ρ6 1).length (lX ρ6 1),vn (os ρ6 1).length,vF,vF]) (fun _=>[]) (cR [[],[],[],[],[0],[]]<|jQ (fun ρ=>((((os ρ6 1).length:Nat):Int) != 2)) false (fun _=>(bne_f om))<|jE [[]]) (fun _=>oN (aG (aA (okJ2 (σ:=(Option Addr) × Nat × (List bU) × (Option Addr) × Nat × (List bU)) (fun ⟨la,lc,L,ba,bc,Bk⟩=>[(4,vF),(6,(pt (nb ρ6 5))),(8,(.slice la L.length lc)),(9,(.slice ba Bk.length bc))]) (fun ⟨_,_,_,_,_,_⟩=>[(nb ρ6 5,(cL #[.slice (oa ρ6 1) ([oT k true (fD ρ6 1) (aZ ρ6 1)]).length (nb ρ6 1),vi 2,vi 0,.slice (lY ρ6 1) (os ρ6 1).length (lX ρ6 1)] 31))]) (fun ⟨la,lc,L,ba,bc,Bk⟩=>(fun w=>kJ w∧fU w∧Is w .i64 ia ic U∧bM w (oa ρ5 1) (nb ρ5 1) ([oT k true (fD ρ5 1) (aZ ρ5 1)])∧bM w (oa ρ6 1) (nb ρ6 1) ([oT k true (fD ρ6 1) (aZ ρ6 1)])∧bI w (lY ρ6 1) (lX ρ6 1) (os ρ6 1)∧bI w la lc L∧bI w ba bc Bk∧True)) (fun ⟨_,_,L,_,_,Bk⟩=>(L.length≤3)∧(Bk.length≤3)∧(Jn (oX k) (sB L) 3)∧(∀ s,s∈sB Bk↔s∈sB L)) ?_ ?_))))))))))
 ·rintro ⟨la,lc,L,ba,bc,Bk⟩ ⟨hL3,hB3,hJ,hme⟩
  refine iZ f5 9 [4,6,8,9,14,15] [] (fun ρ=>let qa:Value:=.agg #[.slice (oa ρ 2) ([oT k true (fD ρ 2) (aZ ρ 2)]).length (nb ρ 2),vi 2,vn (nb4 ρ 2),.slice (lY ρ 2) (os ρ 2).length (lX ρ 2)];[.agg #[.slice (oa ρ6 1) ([oT k true (fD ρ6 1) (aZ ρ6 1)]).length (nb ρ6 1),vi 2,vi 0,.slice (lY ρ6 1) (os ρ6 1).length (lX ρ6 1)],.slice la L.length lc,.tuple #[qa,vi 0],.tuple #[qa,vi 0],qa,vi 0,pt (nb ρ 6),undef,vi 0]) (fun ρ=>[(6,(nw ρ 6 (cL #[vz,vi 0,vi 0,vz] 31))),(7,(bD 49 (nb ρ 6) (cL #[.slice (oa ρ 2) ([oT k true (fD ρ 2) (aZ ρ 2)]).length (nb ρ 2),vi 2,vn (nb4 ρ 2),.slice (lY ρ 2) (os ρ 2).length (lX ρ 2)] 31)))]) (fun ρ=>[(2,fun w=>(bM w (oa ρ 2) (nb ρ 2) ([oT k true (fD ρ 2) (aZ ρ 2)])∧bI w (lY ρ 2) (lX ρ 2) (os ρ 2)∧sB (os ρ 2)=gX (oX k) (nb4 ρ 2+2)∧NtU (oX k) 2 (sB L) 0 (nb4 ρ 2)))]) (fun ρ=>(fun w=>kJ w∧fU w∧Is w .i64 ia ic U∧bM w (oa ρ5 1) (nb ρ5 1) ([oT k true (fD ρ5 1) (aZ ρ5 1)])∧bM w (oa ρ6 1) (nb ρ6 1) ([oT k true (fD ρ6 1) (aZ ρ6 1)])∧bI w (lY ρ6 1) (lX ρ6 1) (os ρ6 1)∧bI w la lc L∧bI w ba bc Bk∧bM w (oa ρ 2) (nb ρ 2) ([oT k true (fD ρ 2) (aZ ρ 2)])∧bI w (lY ρ 2) (lX ρ 2) (os ρ 2)∧True)) (fun ρ=>(sB (os ρ 2)=gX (oX k) (nb4 ρ 2+2)∧NtU (oX k) 2 (sB L) 0 (nb4 ρ 2))) (fun _ _ hF hf=>⟨⟨hF.1,hF.2.1,hF.2.2.1,hF.2.2.2.1,hF.2.2.2.2.1,hF.2.2.2.2.2.1,hF.2.2.2.2.2.2.1,hF.2.2.2.2.2.2.2.1,(hf 2).1,(hf 2).2.1,trivial⟩,(hf 2).2.2⟩) (cR [[0],[]]<|cX (qO (fun _ τ w hG=>xBS (oa ρ6 1) (nb ρ6 1) k (fD ρ6 1) (aZ ρ6 1) 2 0 (lY ρ6 1) (lX ρ6 1) (os ρ6 1) la lc L hk hd ⟨Nat.le_of_ble_eq_true rfl,Nat.le_of_ble_eq_true rfl⟩ hL3 hJ (Nat.zero_le _) ap6_1 ho w hG.fn.2.2.2.2.1 hG.fn.1 hG.fn.2.1 hG.fn.2.2.2.2.2.1 hG.fn.2.2.2.2.2.2.1 τ hG.lt))<|jE [[],[],[],[],[49],[]]) (fun ρ8 ap8_2=>iZ f5 9 [4,6,8,14,15,16,17] [] (fun ρ=>let qa:Value:=.agg #[.slice (oa ρ 2) ([oT k true (fD ρ 2) (aZ ρ 2)]).length (nb ρ 2),vi 2,vn (nb4 ρ 2),.slice (lY ρ 2) (os ρ 2).length (lX ρ 2)];[.agg #[.slice (oa ρ6 1) ([oT k true (fD ρ6 1) (aZ ρ6 1)]).length (nb ρ6 1),vi 2,vi 0,.slice (lY ρ6 1) (os ρ6 1).length (lX ρ6 1)],.slice ba Bk.length bc,.tuple #[qa,vi 0],.tuple #[qa,vi 0],qa,vi 0,pt (nb ρ 6),undef,vi 0]) (fun ρ=>[(6,(nw ρ 6 (cL #[vz,vi 0,vi 0,vz] 31))),(7,(bD 50 (nb ρ 6) (cL #[.slice (oa ρ 2) ([oT k true (fD ρ 2) (aZ ρ 2)]).length (nb ρ 2),vi 2,vn (nb4 ρ 2),.slice (lY ρ 2) (os ρ 2).length (lX ρ 2)] 31)))]) (fun ρ=>[(2,fun w=>(bM w (oa ρ 2) (nb ρ 2) ([oT k true (fD ρ 2) (aZ ρ 2)])∧bI w (lY ρ 2) (lX ρ 2) (os ρ 2)∧sB (os ρ 2)=gX (oX k) (nb4 ρ 2+2)∧NtU (oX k) 2 (sB Bk) 0 (nb4 ρ 2)))]) (fun ρ=>(fun w=>kJ w∧fU w∧Is w .i64 ia ic U∧bM w (oa ρ5 1) (nb ρ5 1) ([oT k true (fD ρ5 1) (aZ ρ5 1)])∧bM w (oa ρ6 1) (nb ρ6 1) ([oT k true (fD ρ6 1) (aZ ρ6 1)])∧bI w (lY ρ6 1) (lX ρ6 1) (os ρ6 1)∧bI w la lc L∧bI w ba bc Bk∧bM w (oa ρ8 2) (nb ρ8 2) ([oT k true (fD ρ8 2) (aZ ρ8 2)])∧bI w (lY ρ8 2) (lX ρ8 2) (os ρ8 2)∧bM w (oa ρ 2) (nb ρ 2) ([oT k true (fD ρ 2) (aZ ρ 2)])∧bI w (lY ρ 2) (lX ρ 2) (os ρ 2)∧True)) (fun ρ=>(sB (os ρ 2)=gX (oX k) (nb4 ρ 2+2)∧NtU (oX k) 2 (sB Bk) 0 (nb4 ρ 2))) (fun _ _ hF hf=>⟨⟨hF.1,hF.2.1,hF.2.2.1,hF.2.2.2.1,hF.2.2.2.2.1,hF.2.2.2.2.2.1,hF.2.2.2.2.2.2.1,hF.2.2.2.2.2.2.2.1,hF.2.2.2.2.2.2.2.2.1,hF.2.2.2.2.2.2.2.2.2.1,(hf 2).1,(hf 2).2.1,trivial⟩,(hf 2).2.2⟩) (cR [[0],[]]<|cX (qO (fun _ τ w hG=>xBS (oa ρ6 1) (nb ρ6 1) k (fD ρ6 1) (aZ ρ6 1) 2 0 (lY ρ6 1) (lX ρ6 1) (os ρ6 1) ba bc Bk hk hd ⟨Nat.le_of_ble_eq_true rfl,Nat.le_of_ble_eq_true rfl⟩ hB3 (hJ.mem hme) (Nat.zero_le _) ap6_1 ho w hG.fn.2.2.2.2.1 hG.fn.1 hG.fn.2.1 hG.fn.2.2.2.2.2.1 hG.fn.2.2.2.2.2.2.2.1 τ hG.lt))<|jE [[],[],[],[],[50],[]]) (fun ρ9 ap9_2=>sS f5 3 [4,6,8,14,15,16,17,18] [] (fun ρ=>[.agg #[.slice (oa ρ6 1) ([oT k true (fD ρ6 1) (aZ ρ6 1)]).length (nb ρ6 1),vi 2,vi 0,.slice (lY ρ6 1) (os ρ6 1).length (lX ρ6 1)],pt (nb ρ 1),undef]) (fun ρ=>[(1,(nw ρ 1 (cL #[vz,vi 0,vi 0,vz] 31))),(2,(bD 11 (nb ρ 1) (cL #[.slice (oa ρ6 1) ([oT k true (fD ρ6 1) (aZ ρ6 1)]).length (nb ρ6 1),vi 2,vi 0,.slice (lY ρ6 1) (os ρ6 1).length (lX ρ6 1)] 31)))]) (jE [[0],[],[11]]) (fun ρ10=>aB (jJ f5 1 [4,6,8,14,15,16,17,18,19] [vi 0] (aI ?_)))))
  refine oLF (σ:=Nat × (Option Addr) × Nat × (Option Addr) × Nat × Nat × (Option Addr) × Nat × (List bU)) (fun ⟨_,ca,cc,cka,ckc,_,ea,ec,El⟩=>(fun w=>kJ w∧fU w∧Is w .i64 ia ic U∧bM w (oa ρ5 1) (nb ρ5 1) ([oT k true (fD ρ5 1) (aZ ρ5 1)])∧bM w (oa ρ6 1) (nb ρ6 1) ([oT k true (fD ρ6 1) (aZ ρ6 1)])∧bI w (lY ρ6 1) (lX ρ6 1) (os ρ6 1)∧bI w la lc L∧bI w ba bc Bk∧bM w (oa ρ8 2) (nb ρ8 2) ([oT k true (fD ρ8 2) (aZ ρ8 2)])∧bI w (lY ρ8 2) (lX ρ8 2) (os ρ8 2)∧bM w (oa ρ9 2) (nb ρ9 2) ([oT k true (fD ρ9 2) (aZ ρ9 2)])∧bI w (lY ρ9 2) (lX ρ9 2) (os ρ9 2)∧bM w ca cc ([oT k true cka ckc])∧bI w ea ec El∧True)) (fun ⟨r,_,_,_,_,_,_,_,_⟩=>[(6,(pt (nb ρ6 5))),(8,(.slice la L.length lc)),(14,(pt (nb ρ8 6))),(15,(vi 0)),(16,(pt (nb ρ9 6))),(17,(vi 0)),(18,(pt (nb ρ10 1))),(19,(vn r))]) (fun ⟨_,ca,cc,cka,ckc,v,ea,ec,El⟩=>[(nb ρ6 5,(cL #[.slice (oa ρ6 1) ([oT k true (fD ρ6 1) (aZ ρ6 1)]).length (nb ρ6 1),vi 2,vi 0,.slice (lY ρ6 1) (os ρ6 1).length (lX ρ6 1)] 31)),(nb ρ8 6,(cL #[.slice (oa ρ8 2) ([oT k true (fD ρ8 2) (aZ ρ8 2)]).length (nb ρ8 2),vi 2,vn (nb4 ρ8 2),.slice (lY ρ8 2) (os ρ8 2).length (lX ρ8 2)] 31)),(nb ρ9 6,(cL #[.slice (oa ρ9 2) ([oT k true (fD ρ9 2) (aZ ρ9 2)]).length (nb ρ9 2),vi 2,vn (nb4 ρ9 2),.slice (lY ρ9 2) (os ρ9 2).length (lX ρ9 2)] 31)),(nb ρ10 1,(cL #[.slice ca ([oT k true cka ckc]).length cc,vi 2,vn v,.slice ea El.length ec] 31))]) (fun ⟨r,_,_,_,_,_,_,_,_⟩=>3-r)
   (fun ⟨r,_,_,_,_,v,_,_,El⟩=>(r≤3)∧(NtR (oX k) 2 (sB L) r v [])∧(sB El=gX (oX k) (v+2))) (0,oa ρ6 1,nb ρ6 1,fD ρ6 1,aZ ρ6 1,0,lY ρ6 1,lX ρ6 1,os ρ6 1) (⟨Nat.le_of_ble_eq_true rfl,NtR.start,ap6_1⟩) (fun w hF=>⟨hF.1,hF.2.1,hF.2.2.1,hF.2.2.2.1,hF.2.2.2.2.1,hF.2.2.2.2.2.1,hF.2.2.2.2.2.2.1,hF.2.2.2.2.2.2.2.1,hF.2.2.2.2.2.2.2.2.1,hF.2.2.2.2.2.2.2.2.2.1,hF.2.2.2.2.2.2.2.2.2.2.1,hF.2.2.2.2.2.2.2.2.2.2.2.1,hF.2.2.2.2.1,hF.2.2.2.2.2.1,trivial⟩) [] ?_
  rintro ⟨r,ca,cc,cka,ckc,v,ea,ec,El⟩ ⟨hr,hR,hC⟩
  refine aB (jJ f5 2 [6,8,14,15,16,17,18,19,83] [vn r,.bool (decide (((r:Nat):Int)<3))] (oC (decide (((r:Nat):Int)<3)) (fun hb2=>?_) (fun hb2=>?_)))
  ·rw [hb2]
   have:=yT hb2
   refine aG (aA (aB (aI (jJ f5 3 [6,8,14,15,16,17,18,19,86,87,88] [.slice la L.length lc,vn L.length,vi 0] (aI ?_)))))
   refine oLF (σ:=(Option Addr) × Nat × (Option Addr) × Nat × Nat × (Option Addr) × Nat × (List bU) × Nat) (fun ⟨da,dc,dka,dkc,_,fa,fc,Fl,_⟩=>(fun w=>kJ w∧fU w∧Is w .i64 ia ic U∧bM w (oa ρ5 1) (nb ρ5 1) ([oT k true (fD ρ5 1) (aZ ρ5 1)])∧bM w (oa ρ6 1) (nb ρ6 1) ([oT k true (fD ρ6 1) (aZ ρ6 1)])∧bI w (lY ρ6 1) (lX ρ6 1) (os ρ6 1)∧bI w la lc L∧bI w ba bc Bk∧bM w (oa ρ8 2) (nb ρ8 2) ([oT k true (fD ρ8 2) (aZ ρ8 2)])∧bI w (lY ρ8 2) (lX ρ8 2) (os ρ8 2)∧bM w (oa ρ9 2) (nb ρ9 2) ([oT k true (fD ρ9 2) (aZ ρ9 2)])∧bI w (lY ρ9 2) (lX ρ9 2) (os ρ9 2)∧bM w da dc ([oT k true dka dkc])∧bI w fa fc Fl∧True)) (fun ⟨_,_,_,_,_,_,_,_,i⟩=>[(6,(pt (nb ρ6 5))),(8,(.slice la L.length lc)),(14,(pt (nb ρ8 6))),(15,(vi 0)),(16,(pt (nb ρ9 6))),(17,(vi 0)),(18,(pt (nb ρ10 1))),(19,(vn r)),(86,(.slice la L.length lc)),(87,(vn L.length)),(88,(vn i))]) (fun ⟨da,dc,dka,dkc,u,fa,fc,Fl,_⟩=>[(nb ρ6 5,(cL #[.slice (oa ρ6 1) ([oT k true (fD ρ6 1) (aZ ρ6 1)]).length (nb ρ6 1),vi 2,vi 0,.slice (lY ρ6 1) (os ρ6 1).length (lX ρ6 1)] 31)),(nb ρ8 6,(cL #[.slice (oa ρ8 2) ([oT k true (fD ρ8 2) (aZ ρ8 2)]).length (nb ρ8 2),vi 2,vn (nb4 ρ8 2),.slice (lY ρ8 2) (os ρ8 2).length (lX ρ8 2)] 31)),(nb ρ9 6,(cL #[.slice (oa ρ9 2) ([oT k true (fD ρ9 2) (aZ ρ9 2)]).length (nb ρ9 2),vi 2,vn (nb4 ρ9 2),.slice (lY ρ9 2) (os ρ9 2).length (lX ρ9 2)] 31)),(nb ρ10 1,(cL #[.slice da ([oT k true dka dkc]).length dc,vi 2,vn u,.slice fa Fl.length fc] 31))]) (fun ⟨_,_,_,_,_,_,_,_,i⟩=>L.length-i)
    (fun ⟨_,_,_,_,u,_,_,Fl,i⟩=>(i≤L.length)∧(NtR (oX k) 2 (sB L) r u (sB (L.take i)))∧(sB Fl=gX (oX k) (u+2))) (ca,cc,cka,ckc,v,ea,ec,El,0) (⟨Nat.zero_le _,hR,hC⟩) (fun w hF=>⟨hF.1,hF.2.1,hF.2.2.1,hF.2.2.2.1,hF.2.2.2.2.1,hF.2.2.2.2.2.1,hF.2.2.2.2.2.2.1,hF.2.2.2.2.2.2.2.1,hF.2.2.2.2.2.2.2.2.1,hF.2.2.2.2.2.2.2.2.2.1,hF.2.2.2.2.2.2.2.2.2.2.1,hF.2.2.2.2.2.2.2.2.2.2.2.1,hF.2.2.2.2.2.2.2.2.2.2.2.2.1,hF.2.2.2.2.2.2.2.2.2.2.2.2.2.1,trivial⟩) [] ?_
   rintro ⟨da,dc,dka,dkc,u,fa,fc,Fl,i⟩ ⟨hi,hQ,hC2⟩
   have hv3:u≤3:=hQ.le hJ
   refine jJ f5 1 [6,8,14,15,16,17,18,19,86,87,88,89] [.bool (decide (((i:Nat):Int)<((L.length:Nat):Int)))] (aB (oC (decide (((i:Nat):Int)<((L.length:Nat):Int))) (fun hb3=>?_) (fun hb3=>?_)))
   ·rw [hb3]
    have:=yT hb3
    refine aG (aA (aB (aI (sS f5 3 [6,8,14,15,16,17,18,19,21,86,87,88] [] (fun _=>let qa:Value:=.slice (gS L i).a (gS L i).b.length (gS L i).c;[.pointer (fK la i),qa,qa]) (fun _=>[]) (cX (qF (fun _ _ _ hG=>bI.idx (k:=.i64) underlying29 sizeOf37 hG.fn.2.2.2.2.2.2.1 rfl (show ((i:Nat):Int)=((i:Nat):Int) from rfl) (show i<L.length from om)))<|cX (qF (fun _ _ _ hG=>bI.ld isAgg37 hG.fn.2.2.2.2.2.2.1 (show i<L.length from om)))<|jE [[]]) (fun _=>iZ f5 10 [6,8,14,15,16,17,18,19,22,23,86,87,88] [1,1,1,1,0,1] (fun ρ=>let qa:Value:=.agg #[.slice (oa ρ 3) ([oT k true (fD ρ 3) (aZ ρ 3)]).length (nb ρ 3),vi 2,vn (nb4 ρ 3),.slice (lY ρ 3) (os ρ 3).length (lX ρ 3)];[.agg #[.slice da ([oT k true dka dkc]).length dc,vi 2,vn u,.slice fa Fl.length fc],.slice (gS L i).a (gS L i).b.length (gS L i).c,vs (nb ρ 2) 1 1,.tuple #[qa,vi 0],.tuple #[qa,vi 0],qa,vi 0,pt (nb ρ 7),undef,vi 0]) (fun ρ=>[(2,(nw ρ 2 (cL #[.slice (gS L i).a (gS L i).b.length (gS L i).c] 37))),(7,(nw ρ 7 (cL #[vz,vi 0,vi 0,vz] 31))),(8,(bD 60 (nb ρ 7) (cL #[.slice (oa ρ 3) ([oT k true (fD ρ 3) (aZ ρ 3)]).length (nb ρ 3),vi 2,vn (nb4 ρ 3),.slice (lY ρ 3) (os ρ 3).length (lX ρ 3)] 31)))]) (fun ρ=>[(3,fun w=>(bM w (oa ρ 3) (nb ρ 3) ([oT k true (fD ρ 3) (aZ ρ 3)])∧bI w (lY ρ 3) (lX ρ 3) (os ρ 3)∧sB (os ρ 3)=gX (oX k) (nb4 ρ 3+2)∧NtU (oX k) 2 (sB [gS L i]) u (nb4 ρ 3)))]) (fun ρ=>(fun w=>kJ w∧fU w∧Is w .i64 ia ic U∧bM w (oa ρ5 1) (nb ρ5 1) ([oT k true (fD ρ5 1) (aZ ρ5 1)])∧bM w (oa ρ6 1) (nb ρ6 1) ([oT k true (fD ρ6 1) (aZ ρ6 1)])∧bI w (lY ρ6 1) (lX ρ6 1) (os ρ6 1)∧bI w la lc L∧bI w ba bc Bk∧bM w (oa ρ8 2) (nb ρ8 2) ([oT k true (fD ρ8 2) (aZ ρ8 2)])∧bI w (lY ρ8 2) (lX ρ8 2) (os ρ8 2)∧bM w (oa ρ9 2) (nb ρ9 2) ([oT k true (fD ρ9 2) (aZ ρ9 2)])∧bI w (lY ρ9 2) (lX ρ9 2) (os ρ9 2)∧bM w da dc ([oT k true dka dkc])∧bI w fa fc Fl∧bM w (oa ρ 3) (nb ρ 3) ([oT k true (fD ρ 3) (aZ ρ 3)])∧bI w (lY ρ 3) (lX ρ 3) (os ρ 3)∧True)) (fun ρ=>(sB (os ρ 3)=gX (oX k) (nb4 ρ 3+2)∧NtU (oX k) 2 (sB [gS L i]) u (nb4 ρ 3))) (fun _ _ hF hf=>⟨⟨hF.1,hF.2.1,hF.2.2.1,hF.2.2.2.1,hF.2.2.2.2.1,hF.2.2.2.2.2.1,hF.2.2.2.2.2.2.1,hF.2.2.2.2.2.2.2.1,hF.2.2.2.2.2.2.2.2.1,hF.2.2.2.2.2.2.2.2.2.1,hF.2.2.2.2.2.2.2.2.2.2.1,hF.2.2.2.2.2.2.2.2.2.2.2.1,hF.2.2.2.2.2.2.2.2.2.2.2.2.1,hF.2.2.2.2.2.2.2.2.2.2.2.2.2.1,(hf 3).1,(hf 3).2.1,trivial⟩,(hf 3).2.2⟩) (cR [[3],[],[]]<|cX (qO (fun ρ τ w hG=>xBS da dc k dka dkc 2 u fa fc Fl (some ⟨nb ρ 2,0,none⟩) 1 [gS L i] hk hd ⟨Nat.le_of_ble_eq_true rfl,Nat.le_of_ble_eq_true rfl⟩ (Nat.le_of_ble_eq_true rfl) (hJ.oneS (show i<L.length from om)) hv3 hC2 ho w hG.fn.2.2.2.2.2.2.2.2.2.2.2.2.1 hG.fn.1 hG.fn.2.1 hG.fn.2.2.2.2.2.2.2.2.2.2.2.2.2.1 (bI.of_A (hG.kn (g:=nb ρ 2) (o:=(cL #[.slice (gS L i).a (gS L i).b.length (gS L i).c] 37)) 20) (kW_A1 (gS L i)) (by decide:1≤140737488351232) (dN.one (hG.fn.2.2.2.2.2.2.1.sub _ (oH (show i<L.length from om))))) τ hG.lt))<|jE [[],[],[],[],[60],[]]) (fun ρ16 ap16_3=>aB (jJ f5 2 [6,8,14,15,16,17,18,19,22,86,87,88,100] [vi 0,vF] (oN (aG (aA (rS f5 2 [6,8,14,15,16,17,18,19,86,87,88] [1,1,1,1,0] (fun _=>[.agg #[.slice (oa ρ16 3) ([oT k true (fD ρ16 3) (aZ ρ16 3)]).length (nb ρ16 3),vi 2,vn (nb4 ρ16 3),.slice (lY ρ16 3) (os ρ16 3).length (lX ρ16 3)],undef]) (fun _=>[(1,(bD 3 (nb ρ10 1) (cL #[.slice (oa ρ16 3) ([oT k true (fD ρ16 3) (aZ ρ16 3)]).length (nb ρ16 3),vi 2,vn (nb4 ρ16 3),.slice (lY ρ16 3) (os ρ16 3).length (lX ρ16 3)] 31)))]) (jE [[4],[3]]) (fun _=>aJ (aA (rS f5 2 [6,8,14,15,16,17,18,19,86,87,88] [] (fun _=>[vn (i+1),vn (i+1)]) (fun _=>[]) (jW (fun ρ=>(((i:Nat):Int)+1)) (fun _=>(i+1)) (fun _=>(aW i 1 om))<|jE [[]]) (fun _=>mD [(6,(pt (nb ρ6 5))),(8,(.slice la L.length lc)),(14,(pt (nb ρ8 6))),(15,(vi 0)),(16,(pt (nb ρ9 6))),(17,(vi 0)),(18,(pt (nb ρ10 1))),(19,(vn r)),(86,(.slice la L.length lc)),(87,(vn L.length)),(88,(vn (i+1)))] [(nb ρ6 5,(cL #[.slice (oa ρ6 1) ([oT k true (fD ρ6 1) (aZ ρ6 1)]).length (nb ρ6 1),vi 2,vi 0,.slice (lY ρ6 1) (os ρ6 1).length (lX ρ6 1)] 31)),(nb ρ8 6,(cL #[.slice (oa ρ8 2) ([oT k true (fD ρ8 2) (aZ ρ8 2)]).length (nb ρ8 2),vi 2,vn (nb4 ρ8 2),.slice (lY ρ8 2) (os ρ8 2).length (lX ρ8 2)] 31)),(nb ρ9 6,(cL #[.slice (oa ρ9 2) ([oT k true (fD ρ9 2) (aZ ρ9 2)]).length (nb ρ9 2),vi 2,vn (nb4 ρ9 2),.slice (lY ρ9 2) (os ρ9 2).length (lX ρ9 2)] 31)),(nb ρ10 1,(cL #[.slice (oa ρ16 3) ([oT k true (fD ρ16 3) (aZ ρ16 3)]).length (nb ρ16 3),vi 2,vn (nb4 ρ16 3),.slice (lY ρ16 3) (os ρ16 3).length (lX ρ16 3)] 31))] ?_)))))))))))))))
    exact mNF (oa ρ16 3,nb ρ16 3,fD ρ16 3,aZ ρ16 3,nb4 ρ16 3,lY ρ16 3,lX ρ16 3,os ρ16 3,i+1) (by show L.length-(i+1)<L.length-i;omega) (⟨om,hQ.stepS (show i<L.length from om) ap16_3.2,ap16_3.1⟩) (fun w hS=>hS.weaken (fun w hF=>⟨hF.1,hF.2.1,hF.2.2.1,hF.2.2.2.1,hF.2.2.2.2.1,hF.2.2.2.2.2.1,hF.2.2.2.2.2.2.1,hF.2.2.2.2.2.2.2.1,hF.2.2.2.2.2.2.2.2.1,hF.2.2.2.2.2.2.2.2.2.1,hF.2.2.2.2.2.2.2.2.2.2.1,hF.2.2.2.2.2.2.2.2.2.2.2.1,hF.2.2.2.2.2.2.2.2.2.2.2.2.2.2.1,hF.2.2.2.2.2.2.2.2.2.2.2.2.2.2.2.1,trivial⟩))
   rw [hb3]
   have:=yF hb3
   refine bF (aN (aN (aT (aJ (aA (rS f5 3 [6,8,14,15,16,17,18,19] [] (fun _=>[vn r,vn (r+1),vn (r+1)]) (fun _=>[]) (cR [[]]<|jW (fun ρ=>(((r:Nat):Int)+1)) (fun _=>(r+1)) (fun _=>(aW r 1 om))<|jE [[]]) (fun _=>mD [(6,(pt (nb ρ6 5))),(8,(.slice la L.length lc)),(14,(pt (nb ρ8 6))),(15,(vi 0)),(16,(pt (nb ρ9 6))),(17,(vi 0)),(18,(pt (nb ρ10 1))),(19,(vn (r+1)))] [(nb ρ6 5,(cL #[.slice (oa ρ6 1) ([oT k true (fD ρ6 1) (aZ ρ6 1)]).length (nb ρ6 1),vi 2,vi 0,.slice (lY ρ6 1) (os ρ6 1).length (lX ρ6 1)] 31)),(nb ρ8 6,(cL #[.slice (oa ρ8 2) ([oT k true (fD ρ8 2) (aZ ρ8 2)]).length (nb ρ8 2),vi 2,vn (nb4 ρ8 2),.slice (lY ρ8 2) (os ρ8 2).length (lX ρ8 2)] 31)),(nb ρ9 6,(cL #[.slice (oa ρ9 2) ([oT k true (fD ρ9 2) (aZ ρ9 2)]).length (nb ρ9 2),vi 2,vn (nb4 ρ9 2),.slice (lY ρ9 2) (os ρ9 2).length (lX ρ9 2)] 31)),(nb ρ10 1,(cL #[.slice da ([oT k true dka dkc]).length dc,vi 2,vn u,.slice fa Fl.length fc] 31))] ?_)))))))
   exact mNF (r+1,da,dc,dka,dkc,u,fa,fc,Fl) (by show 3-(r+1)<3-r;omega) (⟨om,hQ.roundS om,hC2⟩) (fun w hS=>hS.weaken (fun w hF=>⟨hF.1,hF.2.1,hF.2.2.1,hF.2.2.2.1,hF.2.2.2.2.1,hF.2.2.2.2.2.1,hF.2.2.2.2.2.2.1,hF.2.2.2.2.2.2.2.1,hF.2.2.2.2.2.2.2.2.1,hF.2.2.2.2.2.2.2.2.2.1,hF.2.2.2.2.2.2.2.2.2.2.1,hF.2.2.2.2.2.2.2.2.2.2.2.1,hF.2.2.2.2.2.2.2.2.2.2.2.2.1,hF.2.2.2.2.2.2.2.2.2.2.2.2.2.1,trivial⟩))
  rw [hb2]
  have:=yF hb2
  refine bF (aN (aN (aT (aA (aB (sS f5 18 [6,14,120] [1,1,0,0] (fun _=>let qa:Value:=.agg #[.slice (oa ρ8 2) ([oT k true (fD ρ8 2) (aZ ρ8 2)]).length (nb ρ8 2),vi 2,vn (nb4 ρ8 2),.slice (lY ρ8 2) (os ρ8 2).length (lX ρ8 2)];[vi 0,vF,vF,vi 0,vF,vF,vF,qa,.agg #[.slice (oa ρ9 2) ([oT k true (fD ρ9 2) (aZ ρ9 2)]).length (nb ρ9 2),vi 2,vn (nb4 ρ9 2),.slice (lY ρ9 2) (os ρ9 2).length (lX ρ9 2)],vT,vF,vF,vF,qa,.agg #[.slice ca ([oT k true cka ckc]).length cc,vi 2,vn v,.slice ea El.length ec],vT,vF,vF]) (fun _=>[]) (cR [[],[],[],[],[],[],[],[1],[2]]<|cX (qC (fun _ _ w hG=>rsameWU_any (oa ρ8 2) (nb ρ8 2) k (fD ρ8 2) (aZ ρ8 2) (oa ρ9 2) (nb ρ9 2) (fD ρ9 2) (aZ ρ9 2) (nb4 ρ8 2) (nb4 ρ9 2) (lY ρ8 2) (lX ρ8 2) (os ρ8 2) (lY ρ9 2) (lX ρ9 2) (os ρ9 2) hk hd (ap8_2.2.uniq ap9_2.2 hme) ap8_2.1 ap9_2.1 w hG.fn.2.2.2.2.2.2.2.2.1 hG.fn.2.2.2.2.2.2.2.2.2.2.1 hG.fn.2.2.2.2.2.2.2.2.2.1 hG.fn.2.2.2.2.2.2.2.2.2.2.2.1))<|cR [[],[],[],[1],[3]]<|cX (qC (fun _ _ w hG=>rsameWU_any (oa ρ8 2) (nb ρ8 2) k (fD ρ8 2) (aZ ρ8 2) ca cc cka ckc (nb4 ρ8 2) v (lY ρ8 2) (lX ρ8 2) (os ρ8 2) ea ec El hk hd (ap8_2.2.uniq (hR.done (by rw [xAQ];omega)) (fun _=>Iff.rfl)) ap8_2.1 hC w hG.fn.2.2.2.2.2.2.2.2.1 hG.fn.2.2.2.2.2.2.2.2.2.2.2.2.1 hG.fn.2.2.2.2.2.2.2.2.2.1 hG.fn.2.2.2.2.2.2.2.2.2.2.2.2.2.1))<|jE [[],[]]) (fun _=>oN (aG (aA (aB (jM f5 4 [6,14,122,123,124] [] [jp (nb ρ6 5) 3,.slice (lY ρ6 1) (os ρ6 1).length (lX ρ6 1),vn (os ρ6 1).length,vi 0] [[],[0],[],[]] (aI ?_))))))))))))
  refine oL (σ:=Nat) (fun i=>[(6,(pt (nb ρ6 5))),(14,(pt (nb ρ8 6))),(122,(.slice (lY ρ6 1) (os ρ6 1).length (lX ρ6 1))),(123,(vn (os ρ6 1).length)),(124,(vn i))]) (fun _=>[(nb ρ6 5,(cL #[.slice (oa ρ6 1) ([oT k true (fD ρ6 1) (aZ ρ6 1)]).length (nb ρ6 1),vi 2,vi 0,.slice (lY ρ6 1) (os ρ6 1).length (lX ρ6 1)] 31)),(nb ρ8 6,(cL #[.slice (oa ρ8 2) ([oT k true (fD ρ8 2) (aZ ρ8 2)]).length (nb ρ8 2),vi 2,vn (nb4 ρ8 2),.slice (lY ρ8 2) (os ρ8 2).length (lX ρ8 2)] 31))]) (fun i=>2-i)
   (fun i=>(i≤2)) 0 (Nat.zero_le _) [] ?_
  rintro i hi
  refine jJ f5 1 [6,14,122,123,124,125] [.bool (decide (((i:Nat):Int)<(((os ρ6 1).length:Nat):Int)))] (aB (oC (decide (((i:Nat):Int)<(((os ρ6 1).length:Nat):Int))) (fun hb4=>?_) (fun hb4=>?_)))
  ·rw [hb4]
   have:=yT hb4
   refine aG (aA (aB (aI (sS f5 5 [6,14,24,25,122,123,124] [] (fun _=>let qa:Value:=.slice (gS (os ρ6 1) i).a (gS (os ρ6 1) i).b.length (gS (os ρ6 1) i).c;[vn i,.pointer (fK (lY ρ6 1) i),qa,vn i,qa]) (fun _=>[]) (cR [[]]<|cX (qF (fun _ _ _ hG=>bI.idx (k:=.i64) underlying29 sizeOf37 hG.fn.2.2.2.2.2.1 rfl (show ((i:Nat):Int)=((i:Nat):Int) from rfl) (show i<(os ρ6 1).length from om)))<|cX (qF (fun _ _ _ hG=>bI.ld isAgg37 hG.fn.2.2.2.2.2.1 (show i<(os ρ6 1).length from om)))<|jE [[],[]]) (fun _=>sS f5 4 [6,14,24,25,26,122,123,124] [] (fun _=>let qa:=vi (tH (gS (os ρ6 1) i).b (sB (os ρ8 2)) 0);[.agg #[.slice (oa ρ8 2) ([oT k true (fD ρ8 2) (aZ ρ8 2)]).length (nb ρ8 2),vi 2,vn (nb4 ρ8 2),.slice (lY ρ8 2) (os ρ8 2).length (lX ρ8 2)],.slice (gS (os ρ6 1) i).a (gS (os ρ6 1) i).b.length (gS (os ρ6 1) i).c,qa,qa]) (fun _=>[]) (cR [[1],[]]<|cX (qC (fun _ _ w hG=>xAG (.slice (oa ρ8 2) ([oT k true (fD ρ8 2) (aZ ρ8 2)]).length (nb ρ8 2)) 2 ((nb4 ρ8 2:Nat):Int) (lY ρ8 2) (lX ρ8 2) (os ρ8 2) (gS (os ρ6 1) i).a (gS (os ρ6 1) i).c (gS (os ρ6 1) i).b w hG.fn.2.2.2.2.2.2.2.2.2.1 (hG.fn.2.2.2.2.2.1.sub _ (oH (show i<(os ρ6 1).length from om)))))<|jE [[]]) (fun _=>xAN (p:=tH (gS (os ρ6 1) i).b (sB (os ρ8 2)) 0=tH (gS (os ρ6 1) i).b (sB (os ρ6 1)) 0∧0≤tH (gS (os ρ6 1) i).b (sB (os ρ8 2)) 0∧tH (gS (os ρ6 1) i).b (sB (os ρ8 2)) 0≤(i:Int)) (fun w hF=>find_stayS ap6_1 ap8_2.1 om) (fun hx=>sS f5 14 [6,14,122,123,124,145] [] (fun _=>let qa:=vi (tH (gS (os ρ6 1) i).b (sB (os ρ8 2)) 0);[qa,vF,vF,qa,vn i,vF,vF,vF,qa,.agg #[.slice (oa ρ6 1) ([oT k true (fD ρ6 1) (aZ ρ6 1)]).length (nb ρ6 1),vi 2,vi 0,.slice (lY ρ6 1) (os ρ6 1).length (lX ρ6 1)],.slice (gS (os ρ6 1) i).a (gS (os ρ6 1) i).b.length (gS (os ρ6 1) i).c,vi (tH (gS (os ρ6 1) i).b (sB (os ρ6 1)) 0),vF,vF]) (fun _=>[]) (cR [[]]<|jQ (fun ρ=>(decide ((tH (gS (os ρ6 1) i).b (sB (os ρ8 2)) 0)<0))) false (fun _=>(decide_eq_false (oA hx.2.1)))<|cR [[],[],[]]<|jQ (fun ρ=>(decide (((i:Nat):Int)<(tH (gS (os ρ6 1) i).b (sB (os ρ8 2)) 0)))) false (fun _=>(decide_eq_false (oA hx.2.2)))<|cR [[],[],[],[0],[]]<|cX (qC (fun _ _ w hG=>xAG (.slice (oa ρ6 1) ([oT k true (fD ρ6 1) (aZ ρ6 1)]).length (nb ρ6 1)) 2 0 (lY ρ6 1) (lX ρ6 1) (os ρ6 1) (gS (os ρ6 1) i).a (gS (os ρ6 1) i).c (gS (os ρ6 1) i).b w hG.fn.2.2.2.2.2.1 (hG.fn.2.2.2.2.2.1.sub _ (oH (show i<(os ρ6 1).length from om)))))<|cA (fun _=>vF) (fun _=>congrArg Value.bool (bne_f hx.1))<|jE [[]]) (fun _=>oN (aG (aJ (aA (rS f5 2 [6,14,122,123,124] [] (fun _=>[vn (i+1),vn (i+1)]) (fun _=>[]) (jW (fun ρ=>(((i:Nat):Int)+1)) (fun _=>(i+1)) (fun _=>(aW i 1 om))<|jE [[]]) (fun _=>?_)))))))))))))
   exact mN (i+1) (by show 2-(i+1)<2-i;omega) om []
  rw [hb4]
  refine bF (aN (aN (aT (aA (xAN (p:=nb4 ρ8 2≤3) (fun w hF=>ap8_2.2.le hJ (Nat.zero_le _)) (fun hu3=>xAN (p:=(os ρ8 2).length=nb4 ρ8 2+2) (fun w hF=>sB_gX ap8_2.1) (fun hl3=>sS f5 8 [4] [0,0] (fun _=>[jp (nb ρ8 6) 3,.slice (lY ρ8 2) (os ρ8 2).length (lX ρ8 2),vn (os ρ8 2).length,jp (nb ρ8 6) 2,vn (nb4 ρ8 2),vn ((nb4 ρ8 2)+2),vT,vT]) (fun _=>[]) (cR [[],[1],[],[],[1]]<|jW (fun ρ=>(((nb4 ρ8 2:Nat):Int)+2)) (fun _=>((nb4 ρ8 2)+2)) (fun _=>(aW (nb4 ρ8 2) 2 (oA (yF hb4))))<|jQ (fun ρ=>((((os ρ8 2).length:Nat):Int)==(((nb4 ρ8 2)+2:Nat):Int))) true (fun _=>(beq_t om))<|jE [[]]) (fun _=>aF ?_))))))))
  exact mR (v:=vT) (fun _ hS=>⟨rfl,hS.bel⟩)
 intro J1
 refine jJ f5 2 [1,4,5,6,8,9] [vz,vz] (lK [(1,(.slice ia U.length ic)),(4,vF),(5,(.slice (oa ρ5 1) ([oT k true (fD ρ5 1) (aZ ρ5 1)]).length (nb ρ5 1))),(6,(pt (nb ρ6 5))),(8,vz),(9,vz)] [(nb ρ6 5,(cL #[.slice (oa ρ6 1) ([oT k true (fD ρ6 1) (aZ ρ6 1)]).length (nb ρ6 1),vi 2,vi 0,.slice (lY ρ6 1) (os ρ6 1).length (lX ρ6 1)] 31))] (aB (jJ f5 3 [4,5,6,8,9,47,48,49] [.slice ia U.length ic,vn U.length,vi 0] (aI ?_))))
 refine oLF (σ:=Nat ⊕ (Nat × Nat × (Array Value) × (List bU) × Nat × Nat × (Array Value) × (List bU) × Nat)) (fun s=>match s with | Sum.inl _=>(fun w=>kJ w∧fU w∧Is w .i64 ia ic U∧bM w (oa ρ5 1) (nb ρ5 1) ([oT k true (fD ρ5 1) (aZ ρ5 1)])∧bM w (oa ρ6 1) (nb ρ6 1) ([oT k true (fD ρ6 1) (aZ ρ6 1)])∧bI w (lY ρ6 1) (lX ρ6 1) (os ρ6 1)∧True) | Sum.inr ⟨_,_,_,M,_,_,_,N,_⟩=>(fun w=>kJ w∧fU w∧Is w .i64 ia ic U∧bM w (oa ρ5 1) (nb ρ5 1) ([oT k true (fD ρ5 1) (aZ ρ5 1)])∧bM w (oa ρ6 1) (nb ρ6 1) ([oT k true (fD ρ6 1) (aZ ρ6 1)])∧bI w (lY ρ6 1) (lX ρ6 1) (os ρ6 1)∧dN w M∧dN w N∧True)) (fun s=>match s with | Sum.inl j=>[(4,vF),(5,(.slice (oa ρ5 1) ([oT k true (fD ρ5 1) (aZ ρ5 1)]).length (nb ρ5 1))),(6,(pt (nb ρ6 5))),(8,vz),(9,vz),(47,(.slice ia U.length ic)),(48,(vn U.length)),(49,(vn j))] | Sum.inr ⟨i,q,_,M,κ,q2,_,N,κ2⟩=>[(4,vF),(5,(.slice (oa ρ5 1) ([oT k true (fD ρ5 1) (aZ ρ5 1)]).length (nb ρ5 1))),(6,(pt (nb ρ6 5))),(8,(vs q M.length κ)),(9,(vs q2 N.length κ2)),(47,(.slice ia U.length ic)),(48,(vn U.length)),(49,(vn i))]) (fun s=>match s with | Sum.inl _=>[(nb ρ6 5,(cL #[.slice (oa ρ6 1) ([oT k true (fD ρ6 1) (aZ ρ6 1)]).length (nb ρ6 1),vi 2,vi 0,.slice (lY ρ6 1) (os ρ6 1).length (lX ρ6 1)] 31))] | Sum.inr ⟨_,q,C,_,_,q2,C2,_,_⟩=>[(nb ρ6 5,(cL #[.slice (oa ρ6 1) ([oT k true (fD ρ6 1) (aZ ρ6 1)]).length (nb ρ6 1),vi 2,vi 0,.slice (lY ρ6 1) (os ρ6 1).length (lX ρ6 1)] 31)),(q,(cL C 37)),(q2,(cL C2 37))]) (fun s=>match s with | Sum.inl j=>U.length-j | Sum.inr ⟨i,_,_,_,_,_,_,_,_⟩=>U.length-i)
  (fun s=>match s with | Sum.inl j=>(j=0) | Sum.inr ⟨i,_,C,M,κ,_,C2,N,κ2⟩=>(i≤U.length)∧(M.length=i)∧(N.length=i)∧(kW.A C M κ)∧(kW.A C2 N κ2)∧(Jn (oX k) (sB M) 3)∧(∀ s,s∈sB N↔s∈sB M)) (Sum.inl 0) (rfl) (fun w hF=>⟨hF.1,hF.2.1,hF.2.2.1,hF.2.2.2.1,hF.2.2.2.2.1,hF.2.2.2.2.2.1,trivial⟩) [] ?_
 rintro (j | ⟨i,q,C,M,κ,q2,C2,N,κ2⟩)
 ·rintro h0
  refine jJ f5 1 [4,5,6,8,9,47,48,49,50] [.bool (decide (((j:Nat):Int)<((U.length:Nat):Int)))] (aB (oC (decide (((j:Nat):Int)<((U.length:Nat):Int))) (fun hb5=>?_) (fun hb5=>?_)))
  ·rw [hb5]
   have:=yT hb5
   refine aG (aA (aB (aI (sS f5 3 [4,5,6,8,9,11,47,48,49] [] (fun _=>[.pointer (fK ia j),vi (gI U j),vi (gI U j)]) (fun _=>[]) (cX (qF (fun _ _ _ hG=>o6 (k:=.i64) underlying22 sizeOf3 hG.fn.2.2.1 rfl (show ((j:Nat):Int)=((j:Nat):Int) from rfl) (show j<U.length from om)))<|cX (qF (fun _ _ _ hG=>rG isAgg3 hG.fn.2.2.1 (show j<U.length from om)))<|jE [[]]) (fun _=>iZ f5 9 [4,5,6,8,9,12,47,48,49] [] (fun ρ=>let qa:Value:=.slice (oa ρ 3) (wG ([oT k true (fD ρ5 1) (aZ ρ5 1)]) ((dm (gI U j) 3:Nat):Int)).length (nb ρ 3);let qb:=vi (pX ([oT k true (fD ρ5 1) (aZ ρ5 1)]) ((dm (gI U j) 3:Nat):Int));[.slice (oa ρ5 1) ([oT k true (fD ρ5 1) (aZ ρ5 1)]).length (nb ρ5 1),vi (gI U j),vn (dm (gI U j) 3),.tuple #[qa,qb],.tuple #[qa,qb],qa,qb,qa,qb]) (fun _=>[]) (fun ρ=>[(3,fun w=>Fs w0 w (oa ρ 3) (nb ρ 3) (wG ([oT k true (fD ρ5 1) (aZ ρ5 1)]) ((dm (gI U j) 3:Nat):Int)))]) (fun ρ=>(fun w=>kJ w∧fU w∧Is w .i64 ia ic U∧bM w (oa ρ5 1) (nb ρ5 1) ([oT k true (fD ρ5 1) (aZ ρ5 1)])∧bM w (oa ρ6 1) (nb ρ6 1) ([oT k true (fD ρ6 1) (aZ ρ6 1)])∧bI w (lY ρ6 1) (lX ρ6 1) (os ρ6 1)∧Fs w0 w (oa ρ 3) (nb ρ 3) (wG ([oT k true (fD ρ5 1) (aZ ρ5 1)]) ((dm (gI U j) 3:Nat):Int))∧True)) (fun _=>True) (fun _ _ hF hf=>⟨⟨hF.1,hF.2.1,hF.2.2.1,hF.2.2.2.1,hF.2.2.2.2.1,hF.2.2.2.2.2.1,hf 3,trivial⟩,trivial⟩) (cR [[],[]]<|cC (fun _ w=>xBE (gI U j) 3 (by decide) (hU.get j) w)<|cX (qB (fun _ _ w hG=>xAC (oa ρ5 1) (nb ρ5 1) ([oT k true (fD ρ5 1) (aZ ρ5 1)]) ((dm (gI U j) 3:Nat):Int) oT_kd w hG.fn.2.2.2.1))<|jE [[],[],[],[],[]]) (fun ρ33 _=>rSf f5 10 [4,5,6,8,9,47,48,49] [1,0,1,1] (fun ρ=>let qa:=[bU.mk (oa ρ33 3) (nb ρ33 3) (wG ([oT k true (fD ρ5 1) (aZ ρ5 1)]) ((dm (gI U j) 3:Nat):Int))];let qb:Value:=.slice (oa ρ33 3) (wG ([oT k true (fD ρ5 1) (aZ ρ5 1)]) ((dm (gI U j) 3:Nat):Int)).length (nb ρ33 3);let qc:=vs (nb ρ 7) (qa++([]:List bU)).length (aZ ρ 7);let qd:=vs (nb ρ 3) qa.length (qa.length+aZ ρ 3);[vz,qb,vs (nb ρ 2) 1 1,qd,qb,vs (nb ρ 5) 1 1,vz,qc,qd,qc]) (fun ρ=>let qa:Value:=.slice (oa ρ33 3) (wG ([oT k true (fD ρ5 1) (aZ ρ5 1)]) ((dm (gI U j) 3:Nat):Int)).length (nb ρ33 3);[(2,(nw ρ 2 (cL #[qa] 37))),(3,(nw ρ 3 (cL ((kW.r ([bU.mk (oa ρ33 3) (nb ρ33 3) (wG ([oT k true (fD ρ5 1) (aZ ρ5 1)]) ((dm (gI U j) 3:Nat):Int))])).toArray++Builtin.zeroCells (Value.cells vz) (aZ ρ 3)) 37))),(5,(nw ρ 5 (cL #[qa] 37))),(7,(bD 41 (nb ρ 7) (cL (oc ρ 7) 37)))]) (fun ρ=>[(7,fun w=>kW.A (oc ρ 7) (([bU.mk (oa ρ33 3) (nb ρ33 3) (wG ([oT k true (fD ρ5 1) (aZ ρ5 1)]) ((dm (gI U j) 3:Nat):Int))])++([]:List bU)) (aZ ρ 7))]) (fun _=>(fun w=>kJ w∧fU w∧Is w .i64 ia ic U∧bM w (oa ρ5 1) (nb ρ5 1) ([oT k true (fD ρ5 1) (aZ ρ5 1)])∧bM w (oa ρ6 1) (nb ρ6 1) ([oT k true (fD ρ6 1) (aZ ρ6 1)])∧bI w (lY ρ6 1) (lX ρ6 1) (os ρ6 1)∧Fs w0 w (oa ρ33 3) (nb ρ33 3) (wG ([oT k true (fD ρ5 1) (aZ ρ5 1)]) ((dm (gI U j) 3:Nat):Int))∧True)) (fun ρ=>kW.A (oc ρ 7) (([bU.mk (oa ρ33 3) (nb ρ33 3) (wG ([oT k true (fD ρ5 1) (aZ ρ5 1)]) ((dm (gI U j) 3:Nat):Int))])++([]:List bU)) (aZ ρ 7)) (fun _ _ hF hf=>⟨hF,hf 7⟩) (cR [[],[],[]]<|cX (qN (fun _ ζ=>(vs (ζ.headD 0) ([bU.mk (oa ρ33 3) (nb ρ33 3) (wG ([oT k true (fD ρ5 1) (aZ ρ5 1)]) ((dm (gI U j) 3:Nat):Int))]).length (([bU.mk (oa ρ33 3) (nb ρ33 3) (wG ([oT k true (fD ρ5 1) (aZ ρ5 1)]) ((dm (gI U j) 3:Nat):Int))]).length+ζ.tail.headD 0))) (fun _ ζ=>(cL ((kW.r ([bU.mk (oa ρ33 3) (nb ρ33 3) (wG ([oT k true (fD ρ5 1) (aZ ρ5 1)]) ((dm (gI U j) 3:Nat):Int))])).toArray++Builtin.zeroCells (Value.cells vz) (ζ.tail.headD 0)) 37)) (fun ρ _ _ hG=>xAP (K:=kW) (ty:=29) (us:=[bU.mk (oa ρ33 3) (nb ρ33 3) (wG ([oT k true (fD ρ5 1) (aZ ρ5 1)]) ((dm (gI U j) 3:Nat):Int))]) underlying29 (dA (sz:=1) (b:=24) (z:=vz) (by kernel_rfl) rfl) (xAM underlying29 rfl (hG.kn (g:=nb ρ 2) (o:=(cL #[.slice (oa ρ33 3) (wG ([oT k true (fD ρ5 1) (aZ ρ5 1)]) ((dm (gI U j) 3:Nat):Int)).length (nb ρ33 3)] 37)) 17)) (Nat.le_of_ble_eq_true rfl) (Nat.le_of_ble_eq_true rfl) (by decide)))<|cR [[],[],[]]<|cX (qM 41 (fun ρ _ _ _ hg=>wB (K:=kW) (ty:=29) (g:=nb ρ 5) (ts:=[bU.mk (oa ρ33 3) (nb ρ33 3) (wG ([oT k true (fD ρ5 1) (aZ ρ5 1)]) ((dm (gI U j) 3:Nat):Int))]) (us:=([]:List bU)) underlying29 (dA (sz:=1) (b:=24) (z:=vz) (by kernel_rfl) rfl) (kW_A1 _) (src_n underlying29) (by simp only [List.length_cons,List.length_nil];omega) (by decide) hg))<|jE [[],[]]) (fun ρ34 ap34_7=>aJ (aA (rS f5 2 [4,5,6,8,9,47,48,49] [] (fun _=>[vn (j+1),vn (j+1)]) (fun _=>[]) (jW (fun ρ=>(((j:Nat):Int)+1)) (fun _=>(j+1)) (fun _=>(aW j 1 om))<|jE [[]]) (fun _=>mD [(4,vF),(5,(.slice (oa ρ5 1) ([oT k true (fD ρ5 1) (aZ ρ5 1)]).length (nb ρ5 1))),(6,(pt (nb ρ6 5))),(8,(vs (nb ρ34 3) ([bU.mk (oa ρ33 3) (nb ρ33 3) (wG ([oT k true (fD ρ5 1) (aZ ρ5 1)]) ((dm (gI U j) 3:Nat):Int))]).length (([bU.mk (oa ρ33 3) (nb ρ33 3) (wG ([oT k true (fD ρ5 1) (aZ ρ5 1)]) ((dm (gI U j) 3:Nat):Int))]).length+aZ ρ34 3))),(9,(vs (nb ρ34 7) (([bU.mk (oa ρ33 3) (nb ρ33 3) (wG ([oT k true (fD ρ5 1) (aZ ρ5 1)]) ((dm (gI U j) 3:Nat):Int))])++([]:List bU)).length (aZ ρ34 7))),(47,(.slice ia U.length ic)),(48,(vn U.length)),(49,(vn (j+1)))] [(nb ρ6 5,(cL #[.slice (oa ρ6 1) ([oT k true (fD ρ6 1) (aZ ρ6 1)]).length (nb ρ6 1),vi 2,vi 0,.slice (lY ρ6 1) (os ρ6 1).length (lX ρ6 1)] 31)),(nb ρ34 3,(cL ((kW.r ([bU.mk (oa ρ33 3) (nb ρ33 3) (wG ([oT k true (fD ρ5 1) (aZ ρ5 1)]) ((dm (gI U j) 3:Nat):Int))])).toArray++Builtin.zeroCells (Value.cells vz) (aZ ρ34 3)) 37)),(nb ρ34 7,(cL (oc ρ34 7) 37))] ?_))))))))))
   exact mNF (Sum.inr (j+1,nb ρ34 3,(kW.r ([bU.mk (oa ρ33 3) (nb ρ33 3) (wG ([oT k true (fD ρ5 1) (aZ ρ5 1)]) ((dm (gI U j) 3:Nat):Int))])).toArray++Builtin.zeroCells (Value.cells vz) (aZ ρ34 3),[bU.mk (oa ρ33 3) (nb ρ33 3) (wG ([oT k true (fD ρ5 1) (aZ ρ5 1)]) ((dm (gI U j) 3:Nat):Int))],([bU.mk (oa ρ33 3) (nb ρ33 3) (wG ([oT k true (fD ρ5 1) (aZ ρ5 1)]) ((dm (gI U j) 3:Nat):Int))]).length+aZ ρ34 3,nb ρ34 7,oc ρ34 7,([bU.mk (oa ρ33 3) (nb ρ33 3) (wG ([oT k true (fD ρ5 1) (aZ ρ5 1)]) ((dm (gI U j) 3:Nat):Int))])++([]:List bU),aZ ρ34 7)) (by show U.length-(j+1)<U.length-j;omega) (⟨om,(by simp only [List.length_cons,List.length_nil];omega),(by simp only [List.length_append,List.length_cons,List.length_nil];omega),RowK.A.fresh (K:=kW) (z:=vz) rfl ([bU.mk (oa ρ33 3) (nb ρ33 3) (wG ([oT k true (fD ρ5 1) (aZ ρ5 1)]) ((dm (gI U j) 3:Nat):Int))]) (aZ ρ34 3),ap34_7,(Jn.nil (X:=oX k) (n:=3)).appS (M:=[]) (iG (gI U j) (n:=3) (by decide)) oT_exB,mem_appS (M:=[]) (N:=[]) (fun _=>Iff.rfl)⟩) (fun w hS=>hS.weaken (fun w hF=>⟨hF.1,hF.2.1,hF.2.2.1,hF.2.2.2.1,hF.2.2.2.2.1,hF.2.2.2.2.2.1,dN.one hF.2.2.2.2.2.2.1.1,dN.app (dN.one hF.2.2.2.2.2.2.1.1) dN.nil,trivial⟩))
  rw [hb5]
  refine bF (aN (aN (aT (aA (lK [(4,vF),(5,(.slice (oa ρ5 1) ([oT k true (fD ρ5 1) (aZ ρ5 1)]).length (nb ρ5 1))),(6,(pt (nb ρ6 5))),(8,vz),(9,vz),(47,(.slice ia U.length ic)),(48,(vn U.length)),(49,(vn j)),(50,vF)] [(nb ρ6 5,(cL #[.slice (oa ρ6 1) ([oT k true (fD ρ6 1) (aZ ρ6 1)]).length (nb ρ6 1),vi 2,vi 0,.slice (lY ρ6 1) (os ρ6 1).length (lX ρ6 1)] 31))] ?_)))))
  exact okE J1 (none,0,[],none,0,[]) (⟨Nat.le_of_ble_eq_true rfl,Nat.le_of_ble_eq_true rfl,Jn.nil,fun _=>Iff.rfl⟩) (fun w hS=>hS.weaken (fun w hF=>⟨hF.1,hF.2.1,hF.2.2.1,hF.2.2.2.1,hF.2.2.2.2.1,hF.2.2.2.2.2.1,bI.nil,bI.nil,trivial⟩))
 rintro ⟨hi,hM,hN,hA,hA2,hJM,hmm⟩
 refine jJ f5 1 [4,5,6,8,9,47,48,49,50] [.bool (decide (((i:Nat):Int)<((U.length:Nat):Int)))] (aB (oC (decide (((i:Nat):Int)<((U.length:Nat):Int))) (fun hb6=>?_) (fun hb6=>?_)))
 ·rw [hb6]
  have:=yT hb6
  refine aG (aA (aB (aI (sS f5 3 [4,5,6,8,9,11,47,48,49] [] (fun _=>[.pointer (fK ia i),vi (gI U i),vi (gI U i)]) (fun _=>[]) (cX (qF (fun _ _ _ hG=>o6 (k:=.i64) underlying22 sizeOf3 hG.fn.2.2.1 rfl (show ((i:Nat):Int)=((i:Nat):Int) from rfl) (show i<U.length from om)))<|cX (qF (fun _ _ _ hG=>rG isAgg3 hG.fn.2.2.1 (show i<U.length from om)))<|jE [[]]) (fun _=>iZ f5 9 [4,5,6,8,9,12,47,48,49] [] (fun ρ=>let qa:Value:=.slice (oa ρ 3) (wG ([oT k true (fD ρ5 1) (aZ ρ5 1)]) ((dm (gI U i) 3:Nat):Int)).length (nb ρ 3);let qb:=vi (pX ([oT k true (fD ρ5 1) (aZ ρ5 1)]) ((dm (gI U i) 3:Nat):Int));[.slice (oa ρ5 1) ([oT k true (fD ρ5 1) (aZ ρ5 1)]).length (nb ρ5 1),vi (gI U i),vn (dm (gI U i) 3),.tuple #[qa,qb],.tuple #[qa,qb],qa,qb,qa,qb]) (fun _=>[]) (fun ρ=>[(3,fun w=>Fs w0 w (oa ρ 3) (nb ρ 3) (wG ([oT k true (fD ρ5 1) (aZ ρ5 1)]) ((dm (gI U i) 3:Nat):Int)))]) (fun ρ=>(fun w=>kJ w∧fU w∧Is w .i64 ia ic U∧bM w (oa ρ5 1) (nb ρ5 1) ([oT k true (fD ρ5 1) (aZ ρ5 1)])∧bM w (oa ρ6 1) (nb ρ6 1) ([oT k true (fD ρ6 1) (aZ ρ6 1)])∧bI w (lY ρ6 1) (lX ρ6 1) (os ρ6 1)∧dN w M∧dN w N∧Fs w0 w (oa ρ 3) (nb ρ 3) (wG ([oT k true (fD ρ5 1) (aZ ρ5 1)]) ((dm (gI U i) 3:Nat):Int))∧True)) (fun _=>True) (fun _ _ hF hf=>⟨⟨hF.1,hF.2.1,hF.2.2.1,hF.2.2.2.1,hF.2.2.2.2.1,hF.2.2.2.2.2.1,hF.2.2.2.2.2.2.1,hF.2.2.2.2.2.2.2.1,hf 3,trivial⟩,trivial⟩) (cR [[],[]]<|cC (fun _ w=>xBE (gI U i) 3 (by decide) (hU.get i) w)<|cX (qB (fun _ _ w hG=>xAC (oa ρ5 1) (nb ρ5 1) ([oT k true (fD ρ5 1) (aZ ρ5 1)]) ((dm (gI U i) 3:Nat):Int) oT_kd w hG.fn.2.2.2.1))<|jE [[],[],[],[],[]]) (fun ρ38 _=>rSf f5 10 [4,5,6,8,9,47,48,49] [1,1,0,0,1] (fun ρ=>let qa:=[bU.mk (oa ρ38 3) (nb ρ38 3) (wG ([oT k true (fD ρ5 1) (aZ ρ5 1)]) ((dm (gI U i) 3:Nat):Int))];let qb:Value:=.slice (oa ρ38 3) (wG ([oT k true (fD ρ5 1) (aZ ρ5 1)]) ((dm (gI U i) 3:Nat):Int)).length (nb ρ38 3);let qc:=vs (nb ρ 3) (M++qa).length (aZ ρ 3);let qd:=vs (nb ρ 7) (qa++N).length (aZ ρ 7);[vs q M.length κ,qb,vs (nb ρ 2) 1 1,qc,qb,vs (nb ρ 5) 1 1,vs q2 N.length κ2,qd,qc,qd]) (fun ρ=>let qa:Value:=.slice (oa ρ38 3) (wG ([oT k true (fD ρ5 1) (aZ ρ5 1)]) ((dm (gI U i) 3:Nat):Int)).length (nb ρ38 3);[(2,(nw ρ 2 (cL #[qa] 37))),(3,(bD 1 (nb ρ 3) (cL (oc ρ 3) 37))),(5,(nw ρ 5 (cL #[qa] 37))),(7,(bD 43 (nb ρ 7) (cL (oc ρ 7) 37)))]) (fun ρ=>[(3,fun w=>kW.A (oc ρ 3) (M++([bU.mk (oa ρ38 3) (nb ρ38 3) (wG ([oT k true (fD ρ5 1) (aZ ρ5 1)]) ((dm (gI U i) 3:Nat):Int))])) (aZ ρ 3)),(7,fun w=>kW.A (oc ρ 7) (([bU.mk (oa ρ38 3) (nb ρ38 3) (wG ([oT k true (fD ρ5 1) (aZ ρ5 1)]) ((dm (gI U i) 3:Nat):Int))])++N) (aZ ρ 7))]) (fun _=>(fun w=>kJ w∧fU w∧Is w .i64 ia ic U∧bM w (oa ρ5 1) (nb ρ5 1) ([oT k true (fD ρ5 1) (aZ ρ5 1)])∧bM w (oa ρ6 1) (nb ρ6 1) ([oT k true (fD ρ6 1) (aZ ρ6 1)])∧bI w (lY ρ6 1) (lX ρ6 1) (os ρ6 1)∧dN w M∧dN w N∧Fs w0 w (oa ρ38 3) (nb ρ38 3) (wG ([oT k true (fD ρ5 1) (aZ ρ5 1)]) ((dm (gI U i) 3:Nat):Int))∧True)) (fun ρ=>kW.A (oc ρ 3) (M++([bU.mk (oa ρ38 3) (nb ρ38 3) (wG ([oT k true (fD ρ5 1) (aZ ρ5 1)]) ((dm (gI U i) 3:Nat):Int))])) (aZ ρ 3)∧kW.A (oc ρ 7) (([bU.mk (oa ρ38 3) (nb ρ38 3) (wG ([oT k true (fD ρ5 1) (aZ ρ5 1)]) ((dm (gI U i) 3:Nat):Int))])++N) (aZ ρ 7)) (fun _ _ hF hf=>⟨hF,⟨hf 3,hf 7⟩⟩) (cR [[],[],[]]<|cX (qM 1 (fun ρ _ _ hG hg=>wB (K:=kW) (ty:=29) (g:=q) (ts:=M) (us:=[bU.mk (oa ρ38 3) (nb ρ38 3) (wG ([oT k true (fD ρ5 1) (aZ ρ5 1)]) ((dm (gI U i) 3:Nat):Int))]) underlying29 (dA (sz:=1) (b:=24) (z:=vz) (by kernel_rfl) rfl) hA (xAM underlying29 rfl (hG.kn (g:=nb ρ 2) (o:=(cL #[.slice (oa ρ38 3) (wG ([oT k true (fD ρ5 1) (aZ ρ5 1)]) ((dm (gI U i) 3:Nat):Int)).length (nb ρ38 3)] 37)) 19)) (by simp only [List.length_cons,List.length_nil];omega) (by decide) hg))<|cR [[],[],[]]<|cX (qM 43 (fun ρ _ _ hG hg=>wB (K:=kW) (ty:=29) (g:=nb ρ 5) (ts:=[bU.mk (oa ρ38 3) (nb ρ38 3) (wG ([oT k true (fD ρ5 1) (aZ ρ5 1)]) ((dm (gI U i) 3:Nat):Int))]) (us:=N) underlying29 (dA (sz:=1) (b:=24) (z:=vz) (by kernel_rfl) rfl) (kW_A1 _) (src_kW underlying29 (hG.kn (g:=q2) (o:=(cL C2 37)) 2) hA2) (by simp only [List.length_cons,List.length_nil];omega) (by decide) hg))<|jE [[],[]]) (fun ρ39 ⟨ap39_3,ap39_7⟩=>aJ (aA (rS f5 2 [4,5,6,8,9,47,48,49] [] (fun _=>[vn (i+1),vn (i+1)]) (fun _=>[]) (jW (fun ρ=>(((i:Nat):Int)+1)) (fun _=>(i+1)) (fun _=>(aW i 1 om))<|jE [[]]) (fun _=>mD [(4,vF),(5,(.slice (oa ρ5 1) ([oT k true (fD ρ5 1) (aZ ρ5 1)]).length (nb ρ5 1))),(6,(pt (nb ρ6 5))),(8,(vs (nb ρ39 3) (M++([bU.mk (oa ρ38 3) (nb ρ38 3) (wG ([oT k true (fD ρ5 1) (aZ ρ5 1)]) ((dm (gI U i) 3:Nat):Int))])).length (aZ ρ39 3))),(9,(vs (nb ρ39 7) (([bU.mk (oa ρ38 3) (nb ρ38 3) (wG ([oT k true (fD ρ5 1) (aZ ρ5 1)]) ((dm (gI U i) 3:Nat):Int))])++N).length (aZ ρ39 7))),(47,(.slice ia U.length ic)),(48,(vn U.length)),(49,(vn (i+1)))] [(nb ρ6 5,(cL #[.slice (oa ρ6 1) ([oT k true (fD ρ6 1) (aZ ρ6 1)]).length (nb ρ6 1),vi 2,vi 0,.slice (lY ρ6 1) (os ρ6 1).length (lX ρ6 1)] 31)),(nb ρ39 3,(cL (oc ρ39 3) 37)),(nb ρ39 7,(cL (oc ρ39 7) 37))] ?_))))))))))
  exact mNF (Sum.inr (i+1,nb ρ39 3,oc ρ39 3,M++([bU.mk (oa ρ38 3) (nb ρ38 3) (wG ([oT k true (fD ρ5 1) (aZ ρ5 1)]) ((dm (gI U i) 3:Nat):Int))]),aZ ρ39 3,nb ρ39 7,oc ρ39 7,([bU.mk (oa ρ38 3) (nb ρ38 3) (wG ([oT k true (fD ρ5 1) (aZ ρ5 1)]) ((dm (gI U i) 3:Nat):Int))])++N,aZ ρ39 7)) (by show U.length-(i+1)<U.length-i;omega) (⟨om,(by simp only [List.length_append,List.length_cons,List.length_nil];omega),(by simp only [List.length_append,List.length_cons,List.length_nil];omega),ap39_3,ap39_7,hJM.appS (iG (gI U i) (n:=3) (by decide)) oT_exB,mem_appS hmm⟩) (fun w hS=>hS.weaken (fun w hF=>⟨hF.1,hF.2.1,hF.2.2.1,hF.2.2.2.1,hF.2.2.2.2.1,hF.2.2.2.2.2.1,dN.app hF.2.2.2.2.2.2.1 (dN.one hF.2.2.2.2.2.2.2.2.1.1),dN.app (dN.one hF.2.2.2.2.2.2.2.2.1.1) hF.2.2.2.2.2.2.2.1,trivial⟩))
 rw [hb6]
 have:=yF hb6
 refine bF (aN (aN (aT (aA (lK [(4,vF),(5,(.slice (oa ρ5 1) ([oT k true (fD ρ5 1) (aZ ρ5 1)]).length (nb ρ5 1))),(6,(pt (nb ρ6 5))),(8,(vs q M.length κ)),(9,(vs q2 N.length κ2)),(47,(.slice ia U.length ic)),(48,(vn U.length)),(49,(vn i)),(50,vF)] [(nb ρ6 5,(cL #[.slice (oa ρ6 1) ([oT k true (fD ρ6 1) (aZ ρ6 1)]).length (nb ρ6 1),vi 2,vi 0,.slice (lY ρ6 1) (os ρ6 1).length (lX ρ6 1)] 31)),(q,(cL C 37)),(q2,(cL C2 37))] ?_)))))
 exact okE J1 (some ⟨q,0,none⟩,κ,M,some ⟨q2,0,none⟩,κ2,N) (⟨om,om,hJM,hmm⟩) (fun w hS=>((hS.frozW (e:=37) (fr:=(0,0)) (h':=[(nb ρ6 5,(cL #[.slice (oa ρ6 1) ([oT k true (fD ρ6 1) (aZ ρ6 1)]).length (nb ρ6 1),vi 2,vi 0,.slice (lY ρ6 1) (os ρ6 1).length (lX ρ6 1)] 31)),(q2,(cL C2 37))]) 1 hA (Nat.le_trans om (by decide:3≤140737488351232)) (fun w hF=>hF.2.2.2.2.2.2.1) (Or.inr rfl) []).frozW (e:=37) (fr:=(0,0)) (h':=[(nb ρ6 5,(cL #[.slice (oa ρ6 1) ([oT k true (fD ρ6 1) (aZ ρ6 1)]).length (nb ρ6 1),vi 2,vi 0,.slice (lY ρ6 1) (os ρ6 1).length (lX ρ6 1)] 31))]) 1 hA2 (Nat.le_trans om (by decide:3≤140737488351232)) (fun w hF=>hF.2.2.2.2.2.2.2.2.1) (Or.inr rfl) []).weaken (fun w hF=>⟨hF.2.2.1,hF.2.2.2.1,hF.2.2.2.2.1,hF.2.2.2.2.2.1,hF.2.2.2.2.2.2.1,hF.2.2.2.2.2.2.2.1,hF.2.1.1,hF.1.1,trivial⟩))
theorem watchOrder_any (z:Int) (ia:Option Addr) (ic:Nat) (U:List Int) (hz: -9223372036854775808≤z∧z<9223372036854775808) (hU:Z64 U) (w0:World) (hf0:kJ w0) (hf1:fU w0) (hf2:Is w0 .i64 ia ic U):Calls prog 5 #[.int .i64 z,.slice ia U.length ic] w0 (jR vT w0):=watchOrderw_any (kR z) z ia ic U (kR_ok z) (kR_rng z) (kR_snd z) (by show (0:Int)+(((if true=true then 1 else 0:Nat):Nat):Int)≤8;decide) (ok5 z) hU w0 hf0 hf1 hf2 (ranged_any z hz)
open Go Go.ChangeShapes Go.WideShapes Go.RowKit
theorem laidOut:laidOutB prog=true:=by kernel_rfl
theorem own:ownKnob prog.godebug=none:=by kernel_rfl
theorem i64_of {x:Int} (h:(Lit.int .i64 x).wf=true): -9223372036854775808≤x∧x<9223372036854775808:=by
 simp [Lit.wf,IntKind.min,IntKind.max,IntKind.signed,IntKind.bits] at h
 omega
def zK:List (String × DataW Unit):=[("lightclient/sha.k",Rows.laid_lightclient_sha_k),("lightclient/sha.initial",Rows.laid_lightclient_sha_initial)]
def zsK:List Int:=kL.map fun (x:Nat)=>(x:Int)
def zsI:List Int:=[1779033703,3144134277,1013904242,2773480762,1359893119,2600822924,528734635,1541459225]
theorem kb_tab {W:World} {g:Nat} {zs:List Int} {C:Array Value} (hc:∀ i,i<zs.length→W.cell? ⟨g,i,none⟩=some (.int .u32 (zs.getD i 0))) (hC:C=(zs.map (Value.int .u32)).toArray):Kb W g C:=by
 intro i v hv
 rw [hC,List.getElem?_toArray,List.getElem?_map] at hv
 obtain ⟨z,hz,rfl⟩:=Option.map_eq_some_iff.1 hv
 have hi:=(List.getElem?_eq_some_iff.1 hz).1
 rw [hc i hi]
 simp [List.getD,hz]
theorem laid_two {W:World} (h:laidMetH prog zK W):Kb W 2 (bY .u32 64 kN)∧Kb W 1 #[.int .u32 1779033703,.int .u32 3144134277,.int .u32 1013904242,.int .u32 2773480762,.int .u32 1359893119,.int .u32 2600822924,.int .u32 528734635,.int .u32 1541459225]:=by
 rw [MakeChecks.laidMetH_plain _ _ _ (by kernel_rfl)] at h
 obtain ⟨ps,⟨g0,t0,cs0,f0,p0,q0,hg0,ht0,hv0,hd0,⟨g1,t1,cs1,f1,p1,q1,hg1,ht1,hv1,hd1,_,_⟩,_⟩,_,_⟩:=h
 have n0:prog.globalNamed "lightclient/sha.k" = some 2:=by kernel_rfl
 have n1:prog.globalNamed "lightclient/sha.initial" = some 1:=by kernel_rfl
 obtain rfl:=Option.some.inj (n0.symm.trans hg0)
 obtain rfl:=Option.some.inj (n1.symm.trans hg1)
 obtain rfl:=Option.some.inj ((show (prog.globals[2]?).map (·.type)=some 174 by kernel_rfl).symm.trans ht0)
 obtain rfl:=Option.some.inj ((show (prog.globals[1]?).map (·.type)=some 163 by kernel_rfl).symm.trans ht1)
 have d0:(Rows.laid_lightclient_sha_k:DataW Unit)=Lib.tabData .u32 zsK:=by kernel_rfl
 have d1:(Rows.laid_lightclient_sha_initial:DataW Unit)=Lib.tabData .u32 zsI:=by kernel_rfl
 rw [d0] at hd0
 rw [d1] at hd1
 have c0:=Lib.cells_of_tab underlying174 underlying55 (by kernel_rfl) (by kernel_rfl) hd0
 have c1:=Lib.cells_of_tab underlying163 underlying55 (by kernel_rfl) (by kernel_rfl) hd1
 have i0:Lib.TabIs prog W "lightclient/sha.k" .u32 zsK:=by unfold Lib.TabIs;rw [hv0,← c0]
 have i1:Lib.TabIs prog W "lightclient/sha.initial" .u32 zsI:=by unfold Lib.TabIs;rw [hv1,← c1]
 exact ⟨kb_tab (fun i hi=>i0.cell n0 i hi) (by kernel_rfl),kb_tab (fun i hi=>i1.cell n1 i hi) (by kernel_rfl)⟩
theorem door_met (os:Os) (args:Array Value):laidMetH prog zK ((World.doorLaid prog 400 os).forCall (fun _ _=>0) ⟨#[],args,[]⟩).memory :=
 laidMetH_of_parts3 (fuel:=8) (laidMet_of_run' 8 (by kernel_rfl) (by kernel_rfl)) (by kernel_rfl) (by kernel_rfl)
section
variable {H : Type} {enc : TypeId × Value → H} {w : World} {base : Nat} {spare : Nat → Bool} {held : Bool} {fuel : Nat} {cs : List Value} {x : DataW H × List MemPlace}
end
theorem open_ilist {H : Type} {enc : TypeId × Value → H} {w : World} {r : Reach} {base base' : Nat} {held : Bool} {v : Value} {d : DataW H} {p : List MemPlace} {t e : TypeId} {k : IntKind} (ht : prog.underlying t = some (.slice e)) (he : prog.underlying e = some (.int k)) (hce : prog.cellsOf e = 1)
 (hok:Value.okWide prog w r base t v) (h:DataW.Trod enc prog w base' (fun _=>true) held t v d p) (hs:∀ elems spare,d=.slice elems spare→elems.length+spare.length≤140737488351232) :
 ∃ a c zs,v=.slice a (List.length zs) c∧Is w k a c zs∧∀ z∈zs,(Lit.int k z).wf=true:=by
 obtain ⟨a0,len,cap,rfl⟩:=okWide_slice ht hok
 obtain ⟨fuel,hf⟩:=h
 rcases open_ints ht he hce hf with ⟨hcs,_⟩ | ⟨a,len',cap',zs,hcs,_,hle,_,hlen,hx,hcell,hwf⟩
 ·simp [Value.cells] at hcs
  obtain ⟨rfl,rfl,rfl⟩:=hcs
  exact ⟨none,0,[],rfl,Is.nil,by simp⟩
 ·simp [Value.cells] at hcs
  obtain ⟨rfl,rfl,rfl⟩:=hcs
  simp only [if_true] at hlen
  have hd:=congrArg Prod.fst hx
  have hsz:=hs _ _ hd
  have hsz':zs.length≤140737488351232:=by simpa [lits,hlen,hle] using hsz
  refine ⟨some a,cap,zs.take len,?_,⟨?_,?_,?_⟩,fun z hz=>hwf z (List.mem_of_mem_take hz)⟩
  ·rw [List.length_take,Nat.min_eq_left (by omega)]
  ·rw [List.length_take];omega
  ·rw [List.length_take];omega
  ·refine Or.inr ⟨a, rfl, ?_⟩
   intro i u hu
   unfold iv at hu
   rw [List.getElem?_map] at hu
   obtain ⟨z,hz,rfl⟩:=Option.map_eq_some_iff.1 hu
   have hi:i<zs.length:=by
    have:=(List.getElem?_eq_some_iff.1 hz).1
    rw [List.length_take] at this
    omega
   have hzi:zs.getD i 0=z:=by
    rw [List.getElem?_take] at hz
    split at hz
    ·simp [List.getD,hz]
    ·exact absurd hz (by simp)
   rw [hcell i hi,hzi]
end Go.Proofs.YtahoheofpggopaaGreatDoor
