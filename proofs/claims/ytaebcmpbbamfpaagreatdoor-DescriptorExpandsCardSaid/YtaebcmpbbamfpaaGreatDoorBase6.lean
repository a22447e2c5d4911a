/-
  What this statement needs, part 6: the texts of it, one behind the other.
-/
import Derived.Test.YtaebcmpbbamfpaaGreatDoorBase5
import Derived.ProofKit
import Derived.OpenShut
import Derived.Test.YtaebcmpbbamfpaaGreatDoorChecked
import Derived.SizedLaws
import Derived.ChangeSlices
import Derived.ChangeMaps5
import Derived.Test.YtaebcmpbbamfpaaGreatDoorRows
import Derived.LaidMore
import Derived.LaidHandle
import Derived.MakeChecks
import Derived.Lib.LaidTab
import Derived.ChangeArms
import Derived.WideShapes
set_option maxRecDepth 100000
namespace Go.Proofs.YtaebcmpbbamfpaaGreatDoor
open Go Go.RowKit
theorem xN (g:Nat) (n:Nat) (pa:Nat→Option Addr) (pc:Nat→Nat) (pB:Nat→List UInt8) (hn:n≤16) (hl:(mZ pB n).length≤140737488351232) (w0:World) (hf0:Kb w0 g (xO n pa pc pB)) (hf1:rO w0 n pa pc pB):Calls Tryz.prog 73 #[vs g n n] w0 (fun ε w'=>∃ α κ,ε=.returned (.slice α (mZ pB n).length κ)∧jG w0 w'∧Fs w0 w' α κ (mZ pB n)):=by
 refine Calls.of_ok (n:=17) (F:=(fun w=>Kb w g (xO n pa pc pB)∧rO w n pa pc pB∧True)) Tryz.func73 rfl rfl rfl (by simp) (hf0.pers0.and (hf1.pers0.and cO)) ?_
 refine jJ Tryz.f73 1 [0,2] [vz] (jJ Tryz.f73 1 [0,2,3] [vz] (aB (jJ Tryz.f73 3 [2,3,6,7,8] [vs g n n,vn n,vi 0] (aI ?_))))
 refine oLF (σ:=Nat × (Option Addr) × Nat × (List UInt8)) (fun ⟨_,ja,jc,X⟩=>(fun w=>Kb w g (xO n pa pc pB)∧rO w n pa pc pB∧Fs w0 w ja jc X∧True)) (fun ⟨i,ja,jc,X⟩=>[(2,vz),(3,(.slice ja X.length jc)),(6,(vs g n n)),(7,(vn n)),(8,(vn i))]) (fun ⟨_,_,_,_⟩=>[]) (fun ⟨i,_,_,_⟩=>n-i)
   (fun ⟨i,_,_,X⟩=>(i≤n)∧(X=mZ pB i)) (0,none,0,[]) (⟨Nat.zero_le _,rfl⟩) (fun w hF=>⟨hF.1,hF.2.1,Fs.nil,trivial⟩) [] ?_
 rintro ⟨i,ja,jc,X⟩ ⟨hi,hX⟩
 change Ok Tryz.prog _ _ 17 [(2,vz),(3,(.slice ja X.length jc)),(6,(vs g n n)),(7,(vn n)),(8,(vn i))] _ [] (fun w=>Kb w g (xO n pa pc pB)∧rO w n pa pc pB∧Fs w0 w ja jc X∧True)
 refine jJ Tryz.f73 1 [2,3,6,7,8,9] [.bool (decide (((i:Nat):Int)<((n:Nat):Int)))] (aB ?_)
 refine oC (decide (((i:Nat):Int)<((n:Nat):Int))) (fun hb1=>?_) (fun hb1=>?_)
 ·
  rw [hb1]
  have:=yT hb1
  refine aG (aA (aB (aI ?_)))
  refine sS Tryz.f73 3 [2,3,5,6,7,8] [] (fun _=>let qa:Value:=.slice (pa i) (pB i).length (pc i);[jp g i,qa,qa]) (fun _=>[]) (cX (qS (fun _ w=>sO (g:=g) (c:=n) (k:=.i64) Tryz.underlying107 Tryz.sizeOf33 (show ((i:Nat):Int)=((i:Nat):Int) from rfl) (show i<n from (by omega)) w))<|cX (qF (v:=fun ρ=>(.slice (pa i) (pB i).length (pc i))) (fun _ _ _ hG=>mY (off:=i) Tryz.isAgg33 hG.fn.1 (uX (by omega))))<|jE [[]]) (fun _=>?_)
  refine rSf Tryz.f73 4 [2,3,6,7,8] [] (fun ρ=>let qa:Value:=.slice (oa ρ 2) (X++(pB i)).length (nb ρ 2);[.slice ja X.length jc,.slice (pa i) (pB i).length (pc i),qa,qa]) (fun _=>[]) (fun ρ=>[(2,fun w=>Fs w0 w (oa ρ 2) (nb ρ 2) (X++(pB i)))]) (fun ρ=>(fun w=>Kb w g (xO n pa pc pB)∧rO w n pa pc pB∧Fs w0 w ja jc X∧Fs w0 w (oa ρ 2) (nb ρ 2) (X++(pB i))∧True)) (fun _=>True) (fun _ _ hF hf=>⟨⟨hF.1,hF.2.1,hF.2.2.1,hf 2,trivial⟩,trivial⟩) (cR [[],[]]<|cX (qB (fun _ _ w hG=>tZ ja jc X (pa i) (pc i) (pB i) (by have h1:=sH pB (show i<n by omega);rw [← hX] at h1;exact Nat.le_trans h1 hl) w hG.fn.2.2.1.1 (hG.fn.2.1 i (by omega))))<|jE [[]]) (fun ρ6 _=>?_)
  refine aJ (aA ?_)
  refine rS Tryz.f73 2 [2,3,6,7,8] [] (fun _=>[vn (i+1),vn (i+1)]) (fun _=>[]) (jW (fun ρ=>(((i:Nat):Int)+1)) (fun _=>(i+1)) (fun _=>(aW i 1 (by omega)))<|jE [[]]) (fun _=>?_)
  refine mD [(2,vz),(3,(.slice (oa ρ6 2) (X++(pB i)).length (nb ρ6 2))),(6,(vs g n n)),(7,(vn n)),(8,(vn (i+1)))] [] ?_
  exact mNF (i+1,oa ρ6 2,nb ρ6 2,X++(pB i)) (by show n-(i+1)<n-i;omega) (⟨(by omega),by rw [hX];rfl⟩) (fun w hS=>(hS.weaken (fun w hF=>⟨hF.1,hF.2.1,hF.2.2.2.1,trivial⟩)))
 rw [hb1]
 refine bF (aN (aN (aT (aA (jJ Tryz.f73 2 [2] [.slice ja X.length jc,.slice ja X.length jc] (aF (mD [(2,(.slice ja X.length jc))] [] ?_)))))))
 exact mR (v:=(.slice ja X.length jc)) (fun _ hS=>⟨ja,jc,congrArg Ending.returned (by rw [← (show X=mZ pB n from hX.trans (by rw [show i=n by have:=yF hb1;omega]))]),hS.bel,dU (show X=mZ pB n from hX.trans (by rw [show i=n by have:=yF hb1;omega])) hS.facts.now.2.2.1⟩)
theorem jnrow2_any (g:Nat) (a0:Option Addr) (c0:Nat) (B0:List UInt8) (a1:Option Addr) (c1:Nat) (B1:List UInt8) (hl:B0.length+B1.length≤140737488351232) (_h0:0<B0.length) (w0:World) (hf0:Kb w0 g #[.slice a0 B0.length c0,.slice a1 B1.length c1]) (hf1:Bs w0 a0 c0 B0) (hf2:Bs w0 a1 c1 B1):Calls Tryz.prog 73 #[.slice (some ⟨g,0,none⟩) 2 2] w0 (fun ε w'=>∃ α κ,ε=.returned (.slice α (B0++B1).length κ)∧jG w0 w'∧Fs w0 w' α κ (B0++B1)):=xN g 2 (fun k=>[a0,a1].getD k none) (fun k=>[c0,c1].getD k 0) (fun k=>[B0,B1].getD k []) (by decide) (by show (([]++B0)++B1).length≤_;simp only [List.length_append,List.length_nil];omega) w0 hf0 (allB2 hf1 hf2)
theorem jnrow3_any (g:Nat) (a0:Option Addr) (c0:Nat) (B0:List UInt8) (a1:Option Addr) (c1:Nat) (B1:List UInt8) (a2:Option Addr) (c2:Nat) (B2:List UInt8) (hl:B0.length+B1.length+B2.length≤140737488351232) (_h0:0<B0.length) (w0:World) (hf0:Kb w0 g #[.slice a0 B0.length c0,.slice a1 B1.length c1,.slice a2 B2.length c2]) (hf1:Bs w0 a0 c0 B0) (hf2:Bs w0 a1 c1 B1) (hf3:Bs w0 a2 c2 B2):Calls Tryz.prog 73 #[.slice (some ⟨g,0,none⟩) 3 3] w0 (fun ε w'=>∃ α κ,ε=.returned (.slice α ((B0++B1)++B2).length κ)∧jG w0 w'∧Fs w0 w' α κ ((B0++B1)++B2)):=xN g 3 (fun k=>[a0,a1,a2].getD k none) (fun k=>[c0,c1,c2].getD k 0) (fun k=>[B0,B1,B2].getD k []) (by decide) (by show ((([]++B0)++B1)++B2).length≤_;simp only [List.length_append,List.length_nil];omega) w0 hf0 (allB3 hf1 hf2 hf3)
theorem jnrow4_any (g:Nat) (a0:Option Addr) (c0:Nat) (B0:List UInt8) (a1:Option Addr) (c1:Nat) (B1:List UInt8) (a2:Option Addr) (c2:Nat) (B2:List UInt8) (a3:Option Addr) (c3:Nat) (B3:List UInt8) (hl:B0.length+B1.length+B2.length+B3.length≤140737488351232) (_h0:0<B0.length) (w0:World) (hf0:Kb w0 g #[.slice a0 B0.length c0,.slice a1 B1.length c1,.slice a2 B2.length c2,.slice a3 B3.length c3]) (hf1:Bs w0 a0 c0 B0) (hf2:Bs w0 a1 c1 B1) (hf3:Bs w0 a2 c2 B2) (hf4:Bs w0 a3 c3 B3):Calls Tryz.prog 73 #[.slice (some ⟨g,0,none⟩) 4 4] w0 (fun ε w'=>∃ α κ,ε=.returned (.slice α (((B0++B1)++B2)++B3).length κ)∧jG w0 w'∧Fs w0 w' α κ (((B0++B1)++B2)++B3)):=xN g 4 (fun k=>[a0,a1,a2,a3].getD k none) (fun k=>[c0,c1,c2,c3].getD k 0) (fun k=>[B0,B1,B2,B3].getD k []) (by decide) (by show (((([]++B0)++B1)++B2)++B3).length≤_;simp only [List.length_append,List.length_nil];omega) w0 hf0 (allB4 hf1 hf2 hf3 hf4)
theorem jnrow5_any (g:Nat) (a0:Option Addr) (c0:Nat) (B0:List UInt8) (a1:Option Addr) (c1:Nat) (B1:List UInt8) (a2:Option Addr) (c2:Nat) (B2:List UInt8) (a3:Option Addr) (c3:Nat) (B3:List UInt8) (a4:Option Addr) (c4:Nat) (B4:List UInt8) (hl:B0.length+B1.length+B2.length+B3.length+B4.length≤140737488351232) (_h0:0<B0.length) (w0:World) (hf0:Kb w0 g #[.slice a0 B0.length c0,.slice a1 B1.length c1,.slice a2 B2.length c2,.slice a3 B3.length c3,.slice a4 B4.length c4]) (hf1:Bs w0 a0 c0 B0) (hf2:Bs w0 a1 c1 B1) (hf3:Bs w0 a2 c2 B2) (hf4:Bs w0 a3 c3 B3) (hf5:Bs w0 a4 c4 B4):Calls Tryz.prog 73 #[.slice (some ⟨g,0,none⟩) 5 5] w0 (fun ε w'=>∃ α κ,ε=.returned (.slice α ((((B0++B1)++B2)++B3)++B4).length κ)∧jG w0 w'∧Fs w0 w' α κ ((((B0++B1)++B2)++B3)++B4)):=xN g 5 (fun k=>[a0,a1,a2,a3,a4].getD k none) (fun k=>[c0,c1,c2,c3,c4].getD k 0) (fun k=>[B0,B1,B2,B3,B4].getD k []) (by decide) (by show ((((([]++B0)++B1)++B2)++B3)++B4).length≤_;simp only [List.length_append,List.length_nil];omega) w0 hf0 (allB5 hf1 hf2 hf3 hf4 hf5)
theorem rkey_any (p:Nat) (_hp:p<M) (w0:World):Calls Tryz.prog 85 #[U p] w0 (fun ε w'=>∃ α κ,ε=.returned (.slice α (hL p).length κ)∧jG w0 w'∧Fs w0 w' α κ (hL p)):=by
 refine Calls.of_ok (n:=7) (F:=(fun _=>True)) Tryz.func85 rfl rfl rfl (by simp) jT ?_
 refine sS Tryz.f85 2 [1,2] [] (fun ρ=>[pt (nb ρ 0),vz]) (fun ρ=>[(0,(nw ρ 0 (cL (cU p) 39)))]) (jE [[],[]]) (fun _=>?_)
 refine sS Tryz.f85 4 [2,3] [0,1] (fun ρ=>[U p,.agg (hB p),pt (nb ρ 2),undef]) (fun ρ=>[(2,(nw ρ 2 (cL (hB 0) 43))),(3,(bD 17 (nb ρ 2) (cL (hB p) 43)))]) (cR [[0]]<|cC (fun _ w=>rbytes_any p w)<|jE [[],[17]]) (fun ρ2=>?_)
 refine jJ Tryz.f85 2 [2] (let qa:=vs (nb ρ2 2) (hL p).length 32;[qa,qa]) (aF (mD [(2,(vs (nb ρ2 2) (hL p).length 32))] [(nb ρ2 2,(cL (hB p) 43))] ?_))
 exact mR (v:=(vs (nb ρ2 2) (hL p).length 32)) (fun _ hS=>⟨some ⟨nb ρ2 2,0,none⟩,32,congrArg Ending.returned (rfl),hS.bel,dU (rfl) (hS.fresh (.head _) (kP _) (by rw [aO];decide) (by rw [aO];decide))⟩)
theorem ritem_any (n:Nat) (hn:n<4294967296) (w0:World):Calls Tryz.prog 87 #[vu n] w0 (fun ε w'=>∃ α κ,ε=.returned (.slice α (iU n).length κ)∧jG w0 w'∧Fs w0 w' α κ (iU n)):=by
 refine Calls.of_ok (n:=14) (F:=(fun _=>True)) Tryz.func87 rfl rfl rfl (by simp) jT ?_
 refine jJ Tryz.f87 1 [0,2] [vz] (jJ Tryz.f87 1 [0,2,3] [vz] (aB (aI ?_)))
 refine oL (σ:=Nat ⊕ (Nat × Nat × (List UInt8) × (Array Value) × Nat)) (fun s=>match s with | Sum.inl m=>[(0,(vu m)),(2,vz),(3,vz)] | Sum.inr ⟨m,q,X,_,κ⟩=>[(0,(vu m)),(2,vz),(3,(vs q X.length κ))]) (fun s=>match s with | Sum.inl _=>[] | Sum.inr ⟨_,q,_,C,_⟩=>[(q,(cL C 5))]) (fun s=>match s with | Sum.inl m=>m | Sum.inr ⟨m,_,_,_,_⟩=>m)
   (fun s=>match s with | Sum.inl m=>(m=n) | Sum.inr ⟨m,_,X,C,κ⟩=>(X.length≤4)∧(m<2^(8*(4-X.length)))∧(X++itF (4-X.length) m=iU n)∧(Hd C X)∧(C.size=κ)∧(X.length≤κ)) (Sum.inl n) (rfl) [] ?_
 rintro (m | ⟨m,q,X,C,κ⟩)
 ·
  rintro hm0
  change Ok Tryz.prog _ _ 14 [(0,(vu m)),(2,vz),(3,vz)] _ [] (fun _=>True)
  refine aB (jJ Tryz.f87 2 [0,2,3,5] [vu m,.bool (decide (0<((m:Nat):Int)))] ?_)
  refine oC (decide (0<((m:Nat):Int))) (fun hb1=>?_) (fun hb1=>?_)
  ·
   rw [hb1]
   refine aG (aA (aB (aI ?_)))
   refine rS Tryz.f87 6 [0,2,3] [0,1] (fun ρ=>let qa:=([ob ((m%256:Nat):Int)]:List UInt8);let qb:=vs (nb ρ 4) qa.length (qa.length+aZ ρ 4);[vz,vu m,vy (m%256),vs (nb ρ 3) qa.length 1,qb,qb]) (fun ρ=>[(3,(nw ρ 3 (cL #[vy (m%256)] 5))),(4,(nw ρ 4 (cL ((bs ([ob ((m%256:Nat):Int)]:List UInt8)).toArray++zB (aZ ρ 4)) 5)))]) (cR [[],[]]<|cA (fun _=>(vy (m%256))) (fun _=>congrArg (Value.int .u8) (u8M m))<|cR [[]]<|cX (qN (fun _ ζ=>(vs (ζ.headD 0) ([ob ((m%256:Nat):Int)]:List UInt8).length (([ob ((m%256:Nat):Int)]:List UInt8).length+ζ.tail.headD 0))) (fun _ ζ=>(cL ((bs ([ob ((m%256:Nat):Int)]:List UInt8)).toArray++zB (ζ.tail.headD 0)) 5)) (fun ρ _ _ hG=>oU (ty:=33) Tryz.underlying33 nH (Bs.src (tx:=33) Tryz.underlying33 (Bs.of_hd (hG.kn (g:=nb ρ 3) (o:=(cL #[vy (m%256)] 5)) 24) (hd1 (by omega)) (Nat.le_refl 1) (Nat.le_of_ble_eq_true rfl))) (Nat.zero_lt_succ _) (Nat.le_of_ble_eq_true rfl)))<|jE [[]]) (fun ρ4=>?_)
   refine aJ (aA ?_)
   refine rS Tryz.f87 3 [0,2,3] [] (fun _=>[vu m,vu (m / 2^8),vu (m / 2^8)]) (fun _=>[]) (cR [[]]<|cB (a:=fun ρ=>(vu m)) (b:=fun ρ=>(.int .u32 256)) (v:=fun ρ=>(vu (m / 2^8))) .quo 41 (fun _ w=>run_quoU (k:=.u32) (n:=m) (d:=256) rfl (by decide) (by rw [hm0];exact hn) w)<|jE [[]]) (fun _=>?_)
   exact mN (Sum.inr (m / 2^8,nb ρ4 4,([ob ((m%256:Nat):Int)]:List UInt8),(bs ([ob ((m%256:Nat):Int)]:List UInt8)).toArray++zB (aZ ρ4 4),([ob ((m%256:Nat):Int)]:List UInt8).length+aZ ρ4 4)) (it_lt hb1) (⟨(lY (X:=[]) hb1 (by decide) (by rw [hm0];exact Nat.lt_of_lt_of_le hn (by decide)) (by rw [hm0]<;>rfl)).1,(lY (X:=[]) hb1 (by decide) (by rw [hm0];exact Nat.lt_of_lt_of_le hn (by decide)) (by rw [hm0]<;>rfl)).2.1,(lY (X:=[]) hb1 (by decide) (by rw [hm0];exact Nat.lt_of_lt_of_le hn (by decide)) (by rw [hm0]<;>rfl)).2.2,Hd.fresh _ _,kV _ _,Nat.le_add_right _ _⟩) []
  rw [hb1]
  refine bF (aN (aN (aT (aA (jJ Tryz.f87 2 [2] [vz,vz] (aF (mD [(2,vz)] [] ?_)))))))
  exact mR (v:=vz) (fun _ hS=>⟨none,0,congrArg Ending.returned (by rw [← (show ([]:List UInt8)=iU n by rw [← hm0];exact (itF_z hb1).symm)]<;>rfl),hS.bel,dU (show ([]:List UInt8)=iU n by rw [← hm0];exact (itF_z hb1).symm) Fs.nil⟩)
 rintro ⟨hX4,hmb,hE,hC,hs,hle⟩
 change Ok Tryz.prog _ _ 14 [(0,(vu m)),(2,vz),(3,(vs q X.length κ))] _ [(q,(cL C 5))] (fun _=>True)
 refine aB (jJ Tryz.f87 2 [0,2,3,5] [vu m,.bool (decide (0<((m:Nat):Int)))] ?_)
 refine oC (decide (0<((m:Nat):Int))) (fun hb2=>?_) (fun hb2=>?_)
 ·
  rw [hb2]
  refine aG (aA (aB (aI ?_)))
  refine rSf Tryz.f87 6 [0,2,3] [1,0] (fun ρ=>let qa:=([ob ((m%256:Nat):Int)]:List UInt8);let qb:=vs (nb ρ 4) (X++qa).length (aZ ρ 4);[vs q X.length κ,vu m,vy (m%256),vs (nb ρ 3) qa.length 1,qb,qb]) (fun ρ=>[(3,(nw ρ 3 (cL #[vy (m%256)] 5))),(4,(bD 0 (nb ρ 4) (cL (oc ρ 4) 5)))]) (fun ρ=>[(4,fun w=>Ap (oc ρ 4) (X++([ob ((m%256:Nat):Int)]:List UInt8)) (aZ ρ 4))]) (fun _=>(fun _=>True)) (fun ρ=>Ap (oc ρ 4) (X++([ob ((m%256:Nat):Int)]:List UInt8)) (aZ ρ 4)) (fun _ _ hF hf=>⟨hF,hf 4⟩) (cR [[],[]]<|cA (fun _=>(vy (m%256))) (fun _=>congrArg (Value.int .u8) (u8M m))<|cR [[]]<|cX (qM 0 (fun ρ _ _ hG hg=>app_any (ty:=33) (g:=q) (C:=C) (c:=κ) (xs:=X) Tryz.underlying33 nH (Ap.mk' hC hle (Nat.le_trans hX4 (by decide)) hs) (Bs.src (tx:=33) Tryz.underlying33 (Bs.of_hd (hG.kn (g:=nb ρ 3) (o:=(cL #[vy (m%256)] 5)) 25) (hd1 (by omega)) (Nat.le_refl 1) (Nat.le_of_ble_eq_true rfl))) (by simp only [List.length_cons,List.length_nil];omega) hg))<|jE [[]]) (fun ρ8 ap8_4=>?_)
  refine aJ (aA ?_)
  refine rS Tryz.f87 3 [0,2,3] [] (fun _=>[vu m,vu (m / 2^8),vu (m / 2^8)]) (fun _=>[]) (cR [[]]<|cB (a:=fun ρ=>(vu m)) (b:=fun ρ=>(.int .u32 256)) (v:=fun ρ=>(vu (m / 2^8))) .quo 41 (fun _ w=>run_quoU (k:=.u32) (n:=m) (d:=256) rfl (by decide) (it_32 hmb) w)<|jE [[]]) (fun _=>?_)
  exact mN (Sum.inr (m / 2^8,nb ρ8 4,X++([ob ((m%256:Nat):Int)]:List UInt8),oc ρ8 4,aZ ρ8 4)) (it_lt hb2) (⟨(lY hb2 hX4 hmb hE).1,(lY hb2 hX4 hmb hE).2.1,(lY hb2 hX4 hmb hE).2.2,ap8_4.hd,ap8_4.size,ap8_4.le⟩) []
 rw [hb2]
 refine bF (aN (aN (aT (aA (jJ Tryz.f87 2 [2] [vs q X.length κ,vs q X.length κ] (aF (mD [(2,(vs q X.length κ))] [(q,(cL C 5))] ?_)))))))
 exact mR (v:=(vs q X.length κ)) (fun _ hS=>⟨some ⟨q,0,none⟩,κ,congrArg Ending.returned (by rw [← (show X=iU n by rw [← hE,itF_z hb2];exact (List.append_nil X).symm)]<;>rfl),hS.bel,dU (show X=iU n by rw [← hE,itF_z hb2];exact (List.append_nil X).symm) (hS.fresh (.head _) hC hle (Nat.le_trans hX4 (by decide)))⟩)
theorem tY (a:Option Addr) (c:Nat) (B:List UInt8) (hl:B.length≤255) (w0:World) (hf0:Bs w0 a c B):Calls Tryz.prog 113 #[.agg #[vi 1,.slice a B.length c,vi 0,vi 0]] w0 (fun ε w'=>∃ α κ,ε=.returned (.slice α (bQ B).length κ)∧jG w0 w'∧Fs w0 w' α κ (bQ B)):=by
 refine Calls.of_ok (n:=29) (F:=(fun w=>Bs w a c B∧True)) Tryz.func113 rfl rfl rfl (by simp) (hf0.pers0.and cO) ?_
 refine sS Tryz.f113 2 [1,2] [] (fun ρ=>[pt (nb ρ 0),vz]) (fun ρ=>[(0,(nw ρ 0 (cL #[vi 1,.slice a B.length c,vi 0,vi 0] 100)))]) (jE [[],[]]) (fun ρ1=>?_)
 refine aB (jM Tryz.f113 2 [1,2,4] [] [pt (nb ρ1 0),vi 1] [[],[0]] (aI (jJ Tryz.f113 2 [1,2,4,5] [vT,vT] ?_)))
 refine oY ?_
 refine iZ Tryz.f113 10 [1,2] [1,0,0] (fun ρ=>let qa:=([ob 1,ob ((B.length:Nat):Int)]:List UInt8);let qb:Value:=.slice (oa ρ 8) (qa++B).length (nb ρ 8);[jp (nb ρ1 0) 1,.slice a B.length c,vn B.length,vy B.length,vs (nb ρ 4) qa.length 2,jp (nb ρ1 0) 1,.slice a B.length c,vs (nb ρ 7) 2 2,qb,qb]) (fun ρ=>[(4,(nw ρ 4 (cL #[.int .u8 1,vy B.length] 5))),(7,(nw ρ 7 (cL #[vs (nb ρ 4) ([ob 1,ob ((B.length:Nat):Int)]:List UInt8).length 2,.slice a B.length c] 33)))]) (fun ρ=>[(8,fun w=>Fs w0 w (oa ρ 8) (nb ρ 8) (([ob 1,ob ((B.length:Nat):Int)]:List UInt8)++B))]) (fun ρ=>(fun w=>Bs w a c B∧Fs w0 w (oa ρ 8) (nb ρ 8) (([ob 1,ob ((B.length:Nat):Int)]:List UInt8)++B)∧True)) (fun _=>True) (fun _ _ hF hf=>⟨⟨hF.1,hf 8,trivial⟩,trivial⟩) (cR [[],[0],[]]<|cA (v:=fun ρ=>(.int .u8 (IntKind.u8.wrap ((B.length:Nat):Int)))) (fun _=>(vy B.length)) (fun _=>congrArg (Value.int .u8) (u8N (by omega)))<|cR [[],[],[0],[]]<|cX (qB (fun ρ _ w hG=>jnrow2_any (nb ρ 7) (some ⟨nb ρ 4,0,none⟩) 2 ([ob 1,ob ((B.length:Nat):Int)]:List UInt8) a c B (by simp only [List.length_cons,List.length_nil];omega) (Nat.zero_lt_succ _) w (Kb.of_block (hG.kn (g:=nb ρ 7) (o:=(cL #[vs (nb ρ 4) ([ob 1,ob ((B.length:Nat):Int)]:List UInt8).length 2,.slice a B.length c] 33)) 57)) (Bs.of_hd (hG.kn (g:=nb ρ 4) (o:=(cL #[.int .u8 1,vy B.length] 5)) 33) (hd2 (by decide) (by omega)) (Nat.le_refl 2) (Nat.le_of_ble_eq_true rfl)) hG.fn.1))<|jE [[]]) (fun ρ4 _=>?_)
 refine aF (aP (aC (mD [(1,(pt (nb ρ1 0))),(2,(.slice (oa ρ4 8) (([ob 1,ob ((B.length:Nat):Int)]:List UInt8)++B).length (nb ρ4 8)))] [(nb ρ1 0,(cL #[vi 1,.slice a B.length c,vi 0,vi 0] 100))] ?_)))
 exact mR (v:=(.slice (oa ρ4 8) (([ob 1,ob ((B.length:Nat):Int)]:List UInt8)++B).length (nb ρ4 8))) (fun _ hS=>⟨oa ρ4 8,nb ρ4 8,congrArg Ending.returned (rfl),hS.bel,dU (rfl) hS.facts.now.2.1⟩)
theorem wR (a:Option Addr) (c:Nat) (B:List UInt8) (hl:B.length≤255) (w0:World) (hf0:Bs w0 a c B):Calls Tryz.prog 84 #[.slice a B.length c] w0 (fun ε w'=>∃ α κ,ε=.returned (.slice α (bQ B).length κ)∧jG w0 w'∧Fs w0 w' α κ (bQ B)):=by
 refine Calls.of_ok (n:=6) (F:=(fun w=>Bs w a c B∧True)) Tryz.func84 rfl rfl rfl (by simp) (hf0.pers0.and cO) ?_
 refine jJ Tryz.f84 1 [0,2] [vz] ?_
 refine iZ Tryz.f84 4 [2] [] (fun ρ=>let qa:Value:=.slice (oa ρ 2) (bQ B).length (nb ρ 2);[.slice a B.length c,.agg #[vi 1,.slice a B.length c,vi 0,vi 0],qa,qa]) (fun _=>[]) (fun ρ=>[(2,fun w=>Fs w0 w (oa ρ 2) (nb ρ 2) (bQ B))]) (fun ρ=>(fun w=>Bs w a c B∧Fs w0 w (oa ρ 2) (nb ρ 2) (bQ B)∧True)) (fun _=>True) (fun _ _ hF hf=>⟨⟨hF.1,hf 2,trivial⟩,trivial⟩) (cR [[],[]]<|cX (qB (fun _ _ w hG=>tY a c B hl w hG.fn.1))<|jE [[]]) (fun ρ2 _=>?_)
 refine aF (mD [(2,(.slice (oa ρ2 2) (bQ B).length (nb ρ2 2)))] [] ?_)
 exact mR (v:=(.slice (oa ρ2 2) (bQ B).length (nb ρ2 2))) (fun _ hS=>⟨oa ρ2 2,nb ρ2 2,congrArg Ending.returned (rfl),hS.bel,dU (rfl) hS.facts.now.2.1⟩)
theorem rsingle_any (p:Nat) (hp:p<M) (w0:World):Calls Tryz.prog 48 #[U p] w0 (fun ε w'=>∃ α κ,ε=.returned (.slice α (sgB p).length κ)∧jG w0 w'∧Fs w0 w' α κ (sgB p)):=by
 refine Calls.of_ok (n:=9) (F:=(fun _=>True)) Tryz.func48 rfl rfl rfl (by simp) jT ?_
 refine sS Tryz.f48 2 [1,2] [] (fun ρ=>[pt (nb ρ 0),vz]) (fun ρ=>[(0,(nw ρ 0 (cL (cU p) 39)))]) (jE [[],[]]) (fun _=>?_)
 refine iZ Tryz.f48 7 [2] [0,0,0] (fun ρ=>let qa:Value:=.slice (oa ρ 5) ((bQ (hL p))++([10]:List UInt8)).length (nb ρ 5);[U p,.slice (oa ρ 1) (hL p).length (nb ρ 1),.slice (oa ρ 2) (bQ (hL p)).length (nb ρ 2),vs (nb ρ 3) ([10]:List UInt8).length 1,vs (nb ρ 4) 2 2,qa,qa]) (fun ρ=>[(3,(nw ρ 3 (cL #[.int .u8 10] 5))),(4,(nw ρ 4 (cL #[.slice (oa ρ 2) (bQ (hL p)).length (nb ρ 2),vs (nb ρ 3) ([10]:List UInt8).length 1] 33)))]) (fun ρ=>[(1,fun w=>Fs w0 w (oa ρ 1) (nb ρ 1) (hL p)),(2,fun w=>Fs w0 w (oa ρ 2) (nb ρ 2) (bQ (hL p))),(5,fun w=>Fs w0 w (oa ρ 5) (nb ρ 5) ((bQ (hL p))++([10]:List UInt8)))]) (fun ρ=>(fun w=>Fs w0 w (oa ρ 1) (nb ρ 1) (hL p)∧Fs w0 w (oa ρ 2) (nb ρ 2) (bQ (hL p))∧Fs w0 w (oa ρ 5) (nb ρ 5) ((bQ (hL p))++([10]:List UInt8))∧True)) (fun _=>True) (fun _ _ _ hf=>⟨⟨hf 1,hf 2,hf 5,trivial⟩,trivial⟩) (cR [[0]]<|cX (qB (fun _ _ w _=>rkey_any p hp w))<|cX (qB (fun ρ _ w hG=>wR (oa ρ 1) (nb ρ 1) (hL p) (by rw [aO];decide) w (show Fs w0 w (oa ρ 1) (nb ρ 1) (hL p) from (hG.facts 1 rfl).now).1))<|cR [[],[]]<|cX (qB (fun ρ _ w hG=>jnrow2_any (nb ρ 4) (oa ρ 2) (nb ρ 2) (bQ (hL p)) (some ⟨nb ρ 3,0,none⟩) 1 ([10]:List UInt8) (by simp only [List.length_cons,List.length_nil,eG,aO];omega) (qY _) w (Kb.of_block (hG.kn (g:=nb ρ 4) (o:=(cL #[.slice (oa ρ 2) (bQ (hL p)).length (nb ρ 2),vs (nb ρ 3) ([10]:List UInt8).length 1] 33)) 33)) (show Fs w0 w (oa ρ 2) (nb ρ 2) (bQ (hL p)) from (hG.facts 2 rfl).now).1 (Bs.of_hd (hG.kn (g:=nb ρ 3) (o:=(cL #[.int .u8 10] 5)) 25) (rfl:Hd #[.int .u8 10] ([10]:List UInt8)) (Nat.le_refl 1) (Nat.le_of_ble_eq_true rfl))))<|jE [[]]) (fun ρ2 _=>?_)
 refine aF (mD [(2,(.slice (oa ρ2 5) ((bQ (hL p))++([10]:List UInt8)).length (nb ρ2 5)))] [] ?_)
 exact mR (v:=(.slice (oa ρ2 5) ((bQ (hL p))++([10]:List UInt8)).length (nb ρ2 5))) (fun _ hS=>⟨oa ρ2 5,nb ρ2 5,congrArg Ending.returned (rfl),hS.bel,dU (rfl) hS.facts.now.2.2.1⟩)
theorem rafter_any (n:Nat) (a:Option Addr) (c:Nat) (B:List UInt8) (hn:n<4294967296) (hl:B.length≤1000000) (w0:World) (hf0:Bs w0 a c B):Calls Tryz.prog 50 #[vu n,.slice a B.length c] w0 (fun ε w'=>∃ α κ,ε=.returned (.slice α (afB n B).length κ)∧jG w0 w'∧Fs w0 w' α κ (afB n B)):=by
 refine Calls.of_ok (n:=12) (F:=(fun w=>Bs w a c B∧True)) Tryz.func50 rfl rfl rfl (by simp) (hf0.pers0.and cO) ?_
 refine jJ Tryz.f50 1 [0,1,4] [vz] ?_
 refine iZ Tryz.f50 8 [4] [0,0] (fun ρ=>let qa:Value:=.slice (oa ρ 6) (((bQ (iU n))++([12,3]:List UInt8))++B).length (nb ρ 6);[vu n,.slice (oa ρ 1) (iU n).length (nb ρ 1),.slice (oa ρ 2) (bQ (iU n)).length (nb ρ 2),vs (nb ρ 3) ([12,3]:List UInt8).length 2,.slice a B.length c,vs (nb ρ 5) 3 3,qa,qa]) (fun ρ=>[(3,(nw ρ 3 (cL #[.int .u8 12,.int .u8 3] 5))),(5,(nw ρ 5 (cL #[.slice (oa ρ 2) (bQ (iU n)).length (nb ρ 2),vs (nb ρ 3) ([12,3]:List UInt8).length 2,.slice a B.length c] 33)))]) (fun ρ=>[(1,fun w=>Fs w0 w (oa ρ 1) (nb ρ 1) (iU n)),(2,fun w=>Fs w0 w (oa ρ 2) (nb ρ 2) (bQ (iU n))),(6,fun w=>Fs w0 w (oa ρ 6) (nb ρ 6) (((bQ (iU n))++([12,3]:List UInt8))++B))]) (fun ρ=>(fun w=>Bs w a c B∧Fs w0 w (oa ρ 1) (nb ρ 1) (iU n)∧Fs w0 w (oa ρ 2) (nb ρ 2) (bQ (iU n))∧Fs w0 w (oa ρ 6) (nb ρ 6) (((bQ (iU n))++([12,3]:List UInt8))++B)∧True)) (fun _=>True) (fun _ _ hF hf=>⟨⟨hF.1,hf 1,hf 2,hf 6,trivial⟩,trivial⟩) (cR [[]]<|cX (qB (fun _ _ w _=>ritem_any n hn w))<|cX (qB (fun ρ _ w hG=>wR (oa ρ 1) (nb ρ 1) (iU n) (by have:=pO n;omega) w (show Fs w0 w (oa ρ 1) (nb ρ 1) (iU n) from (hG.facts 1 rfl).now).1))<|cR [[],[],[]]<|cX (qB (fun ρ _ w hG=>jnrow3_any (nb ρ 5) (oa ρ 2) (nb ρ 2) (bQ (iU n)) (some ⟨nb ρ 3,0,none⟩) 2 ([12,3]:List UInt8) a c B (by simp only [List.length_cons,List.length_nil,eG];have:=pO n;omega) (qY _) w (Kb.of_block (hG.kn (g:=nb ρ 5) (o:=(cL #[.slice (oa ρ 2) (bQ (iU n)).length (nb ρ 2),vs (nb ρ 3) ([12,3]:List UInt8).length 2,.slice a B.length c] 33)) 40)) (show Fs w0 w (oa ρ 2) (nb ρ 2) (bQ (iU n)) from (hG.facts 2 rfl).now).1 (Bs.of_hd (hG.kn (g:=nb ρ 3) (o:=(cL #[.int .u8 12,.int .u8 3] 5)) 24) (rfl:Hd #[.int .u8 12,.int .u8 3] ([12,3]:List UInt8)) (Nat.le_refl 2) (Nat.le_of_ble_eq_true rfl)) hG.fn.1))<|jE [[]]) (fun ρ2 _=>?_)
 refine aF (mD [(4,(.slice (oa ρ2 6) (((bQ (iU n))++([12,3]:List UInt8))++B).length (nb ρ2 6)))] [] ?_)
 exact mR (v:=(.slice (oa ρ2 6) (((bQ (iU n))++([12,3]:List UInt8))++B).length (nb ρ2 6))) (fun _ hS=>⟨oa ρ2 6,nb ρ2 6,congrArg Ending.returned (rfl),hS.bel,dU (rfl) hS.facts.now.2.2.2.1⟩)
theorem rolder_any (n:Nat) (a:Option Addr) (c:Nat) (B:List UInt8) (hn:n<4294967296) (hl:B.length≤1000000) (w0:World) (hf0:Bs w0 a c B):Calls Tryz.prog 51 #[vu n,.slice a B.length c] w0 (fun ε w'=>∃ α κ,ε=.returned (.slice α (olB n B).length κ)∧jG w0 w'∧Fs w0 w' α κ (olB n B)):=by
 refine Calls.of_ok (n:=12) (F:=(fun w=>Bs w a c B∧True)) Tryz.func51 rfl rfl rfl (by simp) (hf0.pers0.and cO) ?_
 refine jJ Tryz.f51 1 [0,1,4] [vz] ?_
 refine iZ Tryz.f51 8 [4] [0,0] (fun ρ=>let qa:Value:=.slice (oa ρ 6) (((bQ (iU n))++([13,3]:List UInt8))++B).length (nb ρ 6);[vu n,.slice (oa ρ 1) (iU n).length (nb ρ 1),.slice (oa ρ 2) (bQ (iU n)).length (nb ρ 2),vs (nb ρ 3) ([13,3]:List UInt8).length 2,.slice a B.length c,vs (nb ρ 5) 3 3,qa,qa]) (fun ρ=>[(3,(nw ρ 3 (cL #[.int .u8 13,.int .u8 3] 5))),(5,(nw ρ 5 (cL #[.slice (oa ρ 2) (bQ (iU n)).length (nb ρ 2),vs (nb ρ 3) ([13,3]:List UInt8).length 2,.slice a B.length c] 33)))]) (fun ρ=>[(1,fun w=>Fs w0 w (oa ρ 1) (nb ρ 1) (iU n)),(2,fun w=>Fs w0 w (oa ρ 2) (nb ρ 2) (bQ (iU n))),(6,fun w=>Fs w0 w (oa ρ 6) (nb ρ 6) (((bQ (iU n))++([13,3]:List UInt8))++B))]) (fun ρ=>(fun w=>Bs w a c B∧Fs w0 w (oa ρ 1) (nb ρ 1) (iU n)∧Fs w0 w (oa ρ 2) (nb ρ 2) (bQ (iU n))∧Fs w0 w (oa ρ 6) (nb ρ 6) (((bQ (iU n))++([13,3]:List UInt8))++B)∧True)) (fun _=>True) (fun _ _ hF hf=>⟨⟨hF.1,hf 1,hf 2,hf 6,trivial⟩,trivial⟩) (cR [[]]<|cX (qB (fun _ _ w _=>ritem_any n hn w))<|cX (qB (fun ρ _ w hG=>wR (oa ρ 1) (nb ρ 1) (iU n) (by have:=pO n;omega) w (show Fs w0 w (oa ρ 1) (nb ρ 1) (iU n) from (hG.facts 1 rfl).now).1))<|cR [[],[],[]]<|cX (qB (fun ρ _ w hG=>jnrow3_any (nb ρ 5) (oa ρ 2) (nb ρ 2) (bQ (iU n)) (some ⟨nb ρ 3,0,none⟩) 2 ([13,3]:List UInt8) a c B (by simp only [List.length_cons,List.length_nil,eG];have:=pO n;omega) (qY _) w (Kb.of_block (hG.kn (g:=nb ρ 5) (o:=(cL #[.slice (oa ρ 2) (bQ (iU n)).length (nb ρ 2),vs (nb ρ 3) ([13,3]:List UInt8).length 2,.slice a B.length c] 33)) 40)) (show Fs w0 w (oa ρ 2) (nb ρ 2) (bQ (iU n)) from (hG.facts 2 rfl).now).1 (Bs.of_hd (hG.kn (g:=nb ρ 3) (o:=(cL #[.int .u8 13,.int .u8 3] 5)) 24) (rfl:Hd #[.int .u8 13,.int .u8 3] ([13,3]:List UInt8)) (Nat.le_refl 2) (Nat.le_of_ble_eq_true rfl)) hG.fn.1))<|jE [[]]) (fun ρ2 _=>?_)
 refine aF (mD [(4,(.slice (oa ρ2 6) (((bQ (iU n))++([13,3]:List UInt8))++B).length (nb ρ2 6)))] [] ?_)
 exact mR (v:=(.slice (oa ρ2 6) (((bQ (iU n))++([13,3]:List UInt8))++B).length (nb ρ2 6))) (fun _ hS=>⟨oa ρ2 6,nb ρ2 6,congrArg Ending.returned (rfl),hS.bel,dU (rfl) hS.facts.now.2.2.2.1⟩)
theorem rhashed_any (h:Nat) (a:Option Addr) (c:Nat) (B:List UInt8) (_hh:h<M) (hl:B.length≤1000000) (w0:World) (hf0:Bs w0 a c B):Calls Tryz.prog 52 #[.agg (hB h),.slice a B.length c] w0 (fun ε w'=>∃ α κ,ε=.returned (.slice α (hsB h B).length κ)∧jG w0 w'∧Fs w0 w' α κ (hsB h B)):=by
 refine Calls.of_ok (n:=12) (F:=(fun w=>Bs w a c B∧True)) Tryz.func52 rfl rfl rfl (by simp) (hf0.pers0.and cO) ?_
 refine sS Tryz.f52 2 [1,2,4] [] (fun ρ=>[pt (nb ρ 0),vz]) (fun ρ=>[(0,(nw ρ 0 (cL (hB h) 43)))]) (jE [[],[]]) (fun ρ1=>?_)
 refine iZ Tryz.f52 8 [4] [0,0,0,0] (fun ρ=>let qa:Value:=.slice (oa ρ 6) (((([8]:List UInt8)++(bQ (hL h)))++([5,7]:List UInt8))++B).length (nb ρ 6);[vs (nb ρ 0) ([8]:List UInt8).length 1,vs (nb ρ1 0) (hL h).length 32,.slice (oa ρ 2) (bQ (hL h)).length (nb ρ 2),vs (nb ρ 3) ([5,7]:List UInt8).length 2,.slice a B.length c,vs (nb ρ 5) 4 4,qa,qa]) (fun ρ=>[(0,(nw ρ 0 (cL #[.int .u8 8] 5))),(3,(nw ρ 3 (cL #[.int .u8 5,.int .u8 7] 5))),(5,(nw ρ 5 (cL #[vs (nb ρ 0) ([8]:List UInt8).length 1,.slice (oa ρ 2) (bQ (hL h)).length (nb ρ 2),vs (nb ρ 3) ([5,7]:List UInt8).length 2,.slice a B.length c] 33)))]) (fun ρ=>[(2,fun w=>Fs w0 w (oa ρ 2) (nb ρ 2) (bQ (hL h))),(6,fun w=>Fs w0 w (oa ρ 6) (nb ρ 6) (((([8]:List UInt8)++(bQ (hL h)))++([5,7]:List UInt8))++B))]) (fun ρ=>(fun w=>Bs w a c B∧Fs w0 w (oa ρ 2) (nb ρ 2) (bQ (hL h))∧Fs w0 w (oa ρ 6) (nb ρ 6) (((([8]:List UInt8)++(bQ (hL h)))++([5,7]:List UInt8))++B)∧True)) (fun _=>True) (fun _ _ hF hf=>⟨⟨hF.1,hf 2,hf 6,trivial⟩,trivial⟩) (cR [[],[]]<|cX (qB (fun _ _ w hG=>wR (some ⟨nb ρ1 0,0,none⟩) 32 (hL h) (by rw [aO];decide) w (Bs.of_hd (c:=32) (hG.kn (g:=nb ρ1 0) (o:=(cL (hB h) 43)) 0) (kP _) (Nat.le_refl _) (Nat.le_of_ble_eq_true rfl))))<|cR [[],[],[]]<|cX (qB (fun ρ _ w hG=>jnrow4_any (nb ρ 5) (some ⟨nb ρ 0,0,none⟩) 1 ([8]:List UInt8) (oa ρ 2) (nb ρ 2) (bQ (hL h)) (some ⟨nb ρ 3,0,none⟩) 2 ([5,7]:List UInt8) a c B (by simp only [List.length_cons,List.length_nil,eG,aO];omega) (Nat.zero_lt_succ _) w (Kb.of_block (hG.kn (g:=nb ρ 5) (o:=(cL #[vs (nb ρ 0) ([8]:List UInt8).length 1,.slice (oa ρ 2) (bQ (hL h)).length (nb ρ 2),vs (nb ρ 3) ([5,7]:List UInt8).length 2,.slice a B.length c] 33)) 41)) (Bs.of_hd (hG.kn (g:=nb ρ 0) (o:=(cL #[.int .u8 8] 5)) 1) (rfl:Hd #[.int .u8 8] ([8]:List UInt8)) (Nat.le_refl 1) (Nat.le_of_ble_eq_true rfl)) (show Fs w0 w (oa ρ 2) (nb ρ 2) (bQ (hL h)) from (hG.facts 2 rfl).now).1 (Bs.of_hd (hG.kn (g:=nb ρ 3) (o:=(cL #[.int .u8 5,.int .u8 7] 5)) 25) (rfl:Hd #[.int .u8 5,.int .u8 7] ([5,7]:List UInt8)) (Nat.le_refl 2) (Nat.le_of_ble_eq_true rfl)) hG.fn.1))<|jE [[]]) (fun ρ2 _=>?_)
 refine aF (mD [(4,(.slice (oa ρ2 6) (((([8]:List UInt8)++(bQ (hL h)))++([5,7]:List UInt8))++B).length (nb ρ2 6)))] [] ?_)
 exact mR (v:=(.slice (oa ρ2 6) (((([8]:List UInt8)++(bQ (hL h)))++([5,7]:List UInt8))++B).length (nb ρ2 6))) (fun _ hS=>⟨oa ρ2 6,nb ρ2 6,congrArg Ending.returned (rfl),hS.bel,dU (rfl) hS.facts.now.2.2.1⟩)
theorem reither_any (a:Option Addr) (c:Nat) (B:List UInt8) (a2:Option Addr) (c2:Nat) (S:List UInt8) (hl:B.length≤1000000) (hl2:S.length≤1000000) (w0:World) (hf0:Bs w0 a c B) (hf1:Bs w0 a2 c2 S):Calls Tryz.prog 53 #[.slice a B.length c,.slice a2 S.length c2] w0 (fun ε w'=>∃ α κ,ε=.returned (.slice α (eiB B S).length κ)∧jG w0 w'∧Fs w0 w' α κ (eiB B S)):=by
 refine Calls.of_ok (n:=12) (F:=(fun w=>Bs w a c B∧Bs w a2 c2 S∧True)) Tryz.func53 rfl rfl rfl (by simp) (hf0.pers0.and (hf1.pers0.and cO)) ?_
 refine jJ Tryz.f53 1 [0,1,4] [vz] ?_
 refine iZ Tryz.f53 8 [4] [0,0,0,0] (fun ρ=>let qa:Value:=.slice (oa ρ 6) ((((([14]:List UInt8)++B)++([15]:List UInt8))++S)++([16]:List UInt8)).length (nb ρ 6);[vs (nb ρ 0) ([14]:List UInt8).length 1,.slice a B.length c,vs (nb ρ 2) ([15]:List UInt8).length 1,.slice a2 S.length c2,vs (nb ρ 4) ([16]:List UInt8).length 1,vs (nb ρ 5) 5 5,qa,qa]) (fun ρ=>[(0,(nw ρ 0 (cL #[.int .u8 14] 5))),(2,(nw ρ 2 (cL #[.int .u8 15] 5))),(4,(nw ρ 4 (cL #[.int .u8 16] 5))),(5,(nw ρ 5 (cL #[vs (nb ρ 0) ([14]:List UInt8).length 1,.slice a B.length c,vs (nb ρ 2) ([15]:List UInt8).length 1,.slice a2 S.length c2,vs (nb ρ 4) ([16]:List UInt8).length 1] 33)))]) (fun ρ=>[(6,fun w=>Fs w0 w (oa ρ 6) (nb ρ 6) ((((([14]:List UInt8)++B)++([15]:List UInt8))++S)++([16]:List UInt8)))]) (fun ρ=>(fun w=>Bs w a c B∧Bs w a2 c2 S∧Fs w0 w (oa ρ 6) (nb ρ 6) ((((([14]:List UInt8)++B)++([15]:List UInt8))++S)++([16]:List UInt8))∧True)) (fun _=>True) (fun _ _ hF hf=>⟨⟨hF.1,hF.2.1,hf 6,trivial⟩,trivial⟩) (cR [[],[],[],[],[],[]]<|cX (qB (fun ρ _ w hG=>jnrow5_any (nb ρ 5) (some ⟨nb ρ 0,0,none⟩) 1 ([14]:List UInt8) a c B (some ⟨nb ρ 2,0,none⟩) 1 ([15]:List UInt8) a2 c2 S (some ⟨nb ρ 4,0,none⟩) 1 ([16]:List UInt8) (by simp only [List.length_cons,List.length_nil];omega) (Nat.zero_lt_succ _) w (Kb.of_block (hG.kn (g:=nb ρ 5) (o:=(cL #[vs (nb ρ 0) ([14]:List UInt8).length 1,.slice a B.length c,vs (nb ρ 2) ([15]:List UInt8).length 1,.slice a2 S.length c2,vs (nb ρ 4) ([16]:List UInt8).length 1] 33)) 40)) (Bs.of_hd (hG.kn (g:=nb ρ 0) (o:=(cL #[.int .u8 14] 5)) 0) (rfl:Hd #[.int .u8 14] ([14]:List UInt8)) (Nat.le_refl 1) (Nat.le_of_ble_eq_true rfl)) hG.fn.1 (Bs.of_hd (hG.kn (g:=nb ρ 2) (o:=(cL #[.int .u8 15] 5)) 16) (rfl:Hd #[.int .u8 15] ([15]:List UInt8)) (Nat.le_refl 1) (Nat.le_of_ble_eq_true rfl)) hG.fn.2.1 (Bs.of_hd (hG.kn (g:=nb ρ 4) (o:=(cL #[.int .u8 16] 5)) 32) (rfl:Hd #[.int .u8 16] ([16]:List UInt8)) (Nat.le_refl 1) (Nat.le_of_ble_eq_true rfl))))<|jE [[]]) (fun ρ2 _=>?_)
 refine aF (mD [(4,(.slice (oa ρ2 6) ((((([14]:List UInt8)++B)++([15]:List UInt8))++S)++([16]:List UInt8)).length (nb ρ2 6)))] [] ?_)
 exact mR (v:=(.slice (oa ρ2 6) ((((([14]:List UInt8)++B)++([15]:List UInt8))++S)++([16]:List UInt8)).length (nb ρ2 6))) (fun _ hS=>⟨oa ρ2 6,nb ρ2 6,congrArg Ending.returned (rfl),hS.bel,dU (rfl) hS.facts.now.2.2.1⟩)
theorem rcheckm2 (m:Int) (hm:1≤m∧m≤2) (w0:World):Calls Tryz.prog 114 #[.agg #[vi 11,vz,vi m,vi 2]] w0 (jR (vi 0) w0):=by
 refine Calls.of_ok (n:=66) (F:=(fun _=>True)) Tryz.func114 rfl rfl rfl (by simp) jT ?_
 refine sS Tryz.f114 2 [1,2] [] (fun ρ=>[pt (nb ρ 0),vi 0]) (fun ρ=>[(0,(nw ρ 0 (cL #[vi 11,vz,vi m,vi 2] 100)))]) (jE [[],[]]) (fun ρ1=>?_)
 refine aB (aI (jM Tryz.f114 9 [1,2,3] [] [pt (nb ρ1 0),vi 11,vF,vF,pt (nb ρ1 0),vi 11,vF,vF,vF] [[],[0],[],[],[],[0],[],[],[]] ?_))
 refine oN ?_
 refine aB (jM Tryz.f114 10 [1,2,12] [] [jp (nb ρ1 0) 1,vz,vi 0,vF,vF,undef,undef,undef,vF,vF] [[],[0],[],[],[],[],[],[],[],[]] ?_)
 refine oN ?_
 rcases Bool.eq_false_or_eq_true (m != 0) with hb1 | hb1
 ·
  refine rS Tryz.f114 14 [1,2,12] [] (fun _=>[jp (nb ρ1 0) 2,vi m,vT,vT,undef,undef,undef,vT,vT,pt (nb ρ1 0),vi 11,vF,vF,vF]) (fun _=>[]) (cR [[],[0]]<|cA (fun _=>vT) (fun _=>congrArg Value.bool hb1)<|jE [[],[],[],[],[],[],[],[0],[],[],[]]) (fun _=>?_)
  refine aA ?_
  refine oN ?_
  refine jM Tryz.f114 5 [1,2,35] [] [jp (nb ρ1 0) 1,vz,vi 0,vF,vF] [[],[0],[],[],[]] ?_
  refine oN ?_
  refine sS Tryz.f114 26 [2,40] [0] (fun _=>[pt (nb ρ1 0),vi 11,vT,vT,jp (nb ρ1 0) 3,vi 2,vF,vF,jp (nb ρ1 0) 3,vi 2,vF,vF,vF,jp (nb ρ1 0) 2,vi m,vF,vF,vF,jp (nb ρ1 0) 2,vi m,jp (nb ρ1 0) 3,vi 2,vF,vF,vF,vF]) (fun _=>[]) (cR [[],[0],[],[],[],[0],[],[],[],[0],[],[],[],[],[0]]<|jQ (fun ρ=>(decide (m<1))) false (fun _=>(decide_eq_false (by omega)))<|cR [[],[],[],[0],[],[0]]<|jQ (fun ρ=>(decide (2<m))) false (fun _=>(decide_eq_false (by omega)))<|jE [[],[],[]]) (fun _=>?_)
  refine oN ?_
  refine aG (aJ (aA (jJ Tryz.f114 1 [2] [vi 0] (aF ?_))))
  exact mR (v:=(vi 0)) (fun _ hS=>⟨rfl,hS.bel⟩)
 refine rS Tryz.f114 14 [1,2,12] [] (fun _=>[jp (nb ρ1 0) 2,vi m,vF,vF,jp (nb ρ1 0) 3,vi 2,vT,vT,vT,pt (nb ρ1 0),vi 11,vF,vF,vF]) (fun _=>[]) (cR [[],[0]]<|cA (fun _=>vF) (fun _=>congrArg Value.bool hb1)<|jE [[],[],[0],[],[],[],[],[0],[],[],[]]) (fun _=>?_)
 refine aA ?_
 refine oN ?_
 refine jM Tryz.f114 5 [1,2,35] [] [jp (nb ρ1 0) 1,vz,vi 0,vF,vF] [[],[0],[],[],[]] ?_
 refine oN ?_
 refine sS Tryz.f114 26 [2,40] [0] (fun _=>[pt (nb ρ1 0),vi 11,vT,vT,jp (nb ρ1 0) 3,vi 2,vF,vF,jp (nb ρ1 0) 3,vi 2,vF,vF,vF,jp (nb ρ1 0) 2,vi m,vF,vF,vF,jp (nb ρ1 0) 2,vi m,jp (nb ρ1 0) 3,vi 2,vF,vF,vF,vF]) (fun _=>[]) (cR [[],[0],[],[],[],[0],[],[],[],[0],[],[],[],[],[0]]<|jQ (fun ρ=>(decide (m<1))) false (fun _=>(decide_eq_false (by omega)))<|cR [[],[],[],[0],[],[0]]<|jQ (fun ρ=>(decide (2<m))) false (fun _=>(decide_eq_false (by omega)))<|jE [[],[],[]]) (fun _=>?_)
 refine oN ?_
 refine aG (aJ (aA (jJ Tryz.f114 1 [2] [vi 0] (aF ?_))))
 exact mR (v:=(vi 0)) (fun _ hS=>⟨rfl,hS.bel⟩)
theorem rencodem2 (m:Int) (hm:1≤m∧m≤2) (w0:World):Calls Tryz.prog 113 #[.agg #[vi 11,vz,vi m,vi 2]] w0 (fun ε w'=>∃ α κ,ε=.returned (.slice α ([ob 11,ob m,ob 2]).length κ)∧jG w0 w'∧Fs w0 w' α κ ([ob 11,ob m,ob 2])):=by
 refine Calls.of_ok (n:=29) (F:=(fun _=>True)) Tryz.func113 rfl rfl rfl (by simp) jT ?_
 refine sS Tryz.f113 2 [1,2] [] (fun ρ=>[pt (nb ρ 0),vz]) (fun ρ=>[(0,(nw ρ 0 (cL #[vi 11,vz,vi m,vi 2] 100)))]) (jE [[],[]]) (fun ρ1=>?_)
 refine aB (jM Tryz.f113 2 [1,2,4] [] [pt (nb ρ1 0),vi 11] [[],[0]] (aI (jJ Tryz.f113 2 [1,2,4,5] [vF,vF] ?_)))
 refine oN ?_
 refine jJ Tryz.f113 2 [1,2,16] [vT,vT] ?_
 refine oY ?_
 refine sS Tryz.f113 8 [1,2] [] (fun ρ=>let qa:=vs (nb ρ 6) ([ob 11,ob m,ob 2]:List UInt8).length 3;[jp (nb ρ1 0) 2,vi m,.int .u8 m,jp (nb ρ1 0) 3,vi 2,.int .u8 2,qa,qa]) (fun ρ=>[(6,(nw ρ 6 (cL #[.int .u8 11,.int .u8 m,.int .u8 2] 5)))]) (cR [[],[0]]<|cA (v:=fun ρ=>(.int .u8 (IntKind.u8.wrap m))) (fun _=>(.int .u8 m)) (fun _=>congrArg (Value.int .u8) (u8I (by omega)))<|jE [[],[0],[],[],[]]) (fun ρ5=>?_)
 refine aF (aP (aC (mD [(1,(pt (nb ρ1 0))),(2,(vs (nb ρ5 6) ([ob 11,ob m,ob 2]:List UInt8).length 3))] [(nb ρ1 0,(cL #[vi 11,vz,vi m,vi 2] 100)),(nb ρ5 6,(cL #[.int .u8 11,.int .u8 m,.int .u8 2] 5))] ?_)))
 exact mR (v:=(vs (nb ρ5 6) ([ob 11,ob m,ob 2]:List UInt8).length 3)) (fun _ hS=>⟨some ⟨nb ρ5 6,0,none⟩,3,congrArg Ending.returned (rfl),hS.bel,dU (rfl) (hS.fresh (.tail _ (.head _)) (hd3 (by decide) (by omega) (by decide)) (Nat.le_refl 3) (Nat.le_of_ble_eq_true rfl))⟩)
theorem rcheck1_any (a:Option Addr) (c:Nat) (B:List UInt8) (hl:B.length≤255) (w0:World):Calls Tryz.prog 114 #[.agg #[vi 1,.slice a B.length c,vi 0,vi 0]] w0 (jR (vi 0) w0):=by
 refine Calls.of_ok (n:=66) (F:=(fun _=>True)) Tryz.func114 rfl rfl rfl (by simp) jT ?_
 refine sS Tryz.f114 2 [1,2] [] (fun ρ=>[pt (nb ρ 0),vi 0]) (fun ρ=>[(0,(nw ρ 0 (cL #[vi 1,.slice a B.length c,vi 0,vi 0] 100)))]) (jE [[],[]]) (fun ρ1=>?_)
 refine aB (aI (jM Tryz.f114 9 [1,2,3] [] [pt (nb ρ1 0),vi 1,vF,vF,pt (nb ρ1 0),vi 1,vF,vF,vF] [[],[0],[],[],[],[0],[],[],[]] ?_))
 refine oN ?_
 refine aB ?_
 rcases Bool.eq_false_or_eq_true (decide (0<((B.length:Nat):Int))) with hb1 | hb1
 ·
  refine sS Tryz.f114 10 [1,2,12] [] (fun _=>[jp (nb ρ1 0) 1,.slice a B.length c,vn B.length,vT,vT,pt (nb ρ1 0),vi 1,vF,vF,vF]) (fun _=>[]) (cR [[],[0],[]]<|cA (fun _=>vT) (fun _=>congrArg Value.bool hb1)<|jE [[],[],[0],[],[],[]]) (fun _=>?_)
  refine oN ?_
  refine jL Tryz.f114 14 [1,2,12] [] [jp (nb ρ1 0) 2,vi 0,vF,vF,jp (nb ρ1 0) 3,vi 0,vF,vF,vF,undef,undef,undef,vF,vF] [[],[0],[],[],[],[0],[],[],[],[],[],[],[],[]] (aA ?_)
  refine oN ?_
  refine sS Tryz.f114 5 [1,2,35] [] (fun _=>[jp (nb ρ1 0) 1,.slice a B.length c,vn B.length,vF,vF]) (fun _=>[]) (cR [[],[0],[]]<|jQ (fun ρ=>(decide (255<((B.length:Nat):Int)))) false (fun _=>(decide_eq_false (by omega)))<|jE [[]]) (fun _=>?_)
  refine oN ?_
  refine jM Tryz.f114 26 [2,40] [0] [pt (nb ρ1 0),vi 1,vF,vF,undef,undef,undef,undef,undef,undef,undef,undef,undef,undef,undef,undef,undef,undef,undef,undef,undef,undef,undef,undef,vF,vF] [[],[0],[],[],[],[],[],[],[],[],[],[],[],[],[],[],[],[],[],[],[],[],[],[],[],[]] ?_
  refine oN ?_
  refine aG (aJ (aA (jJ Tryz.f114 1 [2] [vi 0] (aF ?_))))
  exact mR (v:=(vi 0)) (fun _ hS=>⟨rfl,hS.bel⟩)
 refine sS Tryz.f114 10 [1,2,12] [] (fun _=>[jp (nb ρ1 0) 1,.slice a B.length c,vn B.length,vF,vF,undef,undef,undef,vF,vF]) (fun _=>[]) (cR [[],[0],[]]<|cA (fun _=>vF) (fun _=>congrArg Value.bool hb1)<|jE [[],[],[],[],[],[]]) (fun _=>?_)
 refine oN ?_
 refine jL Tryz.f114 14 [1,2,12] [] [jp (nb ρ1 0) 2,vi 0,vF,vF,jp (nb ρ1 0) 3,vi 0,vF,vF,vF,undef,undef,undef,vF,vF] [[],[0],[],[],[],[0],[],[],[],[],[],[],[],[]] (aA ?_)
 refine oN ?_
 refine sS Tryz.f114 5 [1,2,35] [] (fun _=>[jp (nb ρ1 0) 1,.slice a B.length c,vn B.length,vF,vF]) (fun _=>[]) (cR [[],[0],[]]<|jQ (fun ρ=>(decide (255<((B.length:Nat):Int)))) false (fun _=>(decide_eq_false (by omega)))<|jE [[]]) (fun _=>?_)
 refine oN ?_
 refine jM Tryz.f114 26 [2,40] [0] [pt (nb ρ1 0),vi 1,vF,vF,undef,undef,undef,undef,undef,undef,undef,undef,undef,undef,undef,undef,undef,undef,undef,undef,undef,undef,undef,undef,vF,vF] [[],[0],[],[],[],[],[],[],[],[],[],[],[],[],[],[],[],[],[],[],[],[],[],[],[],[]] ?_
 refine oN ?_
 refine aG (aJ (aA (jJ Tryz.f114 1 [2] [vi 0] (aF ?_))))
 exact mR (v:=(vi 0)) (fun _ hS=>⟨rfl,hS.bel⟩)
theorem rasm2 (g:Nat) (c:Nat) (a0:Option Addr) (c0:Nat) (p:Nat) (a1:Option Addr) (c1:Nat) (q:Nat) (m:Int) (hm:1≤m∧m≤2) (w0:World) (hf0:Rs w0 (some ⟨g,0,none⟩) [vi 1,.slice a0 (hL p).length c0,vi 0,vi 0,vi 1,.slice a1 (hL q).length c1,vi 0,vi 0,vi 11,vz,vi m,vi 2]) (hf1:Bs w0 a0 c0 (hL p)) (hf2:Bs w0 a1 c1 (hL q)):Calls Tryz.prog 86 #[vs g 3 c] w0 (fun ε w'=>∃ α κ,ε=.returned (.tuple #[.slice α (((bQ (hL p))++(bQ (hL q)))++([ob 11,ob m,ob 2])).length κ,vi 0])∧jG w0 w'∧Fs w0 w' α κ (((bQ (hL p))++(bQ (hL q)))++([ob 11,ob m,ob 2]))):=by
 refine Calls.of_ok (n:=37) (F:=(fun w=>Rs w (some ⟨g,0,none⟩) [vi 1,.slice a0 (hL p).length c0,vi 0,vi 0,vi 1,.slice a1 (hL q).length c1,vi 0,vi 0,vi 11,vz,vi m,vi 2]∧Bs w a0 c0 (hL p)∧Bs w a1 c1 (hL q)∧True)) Tryz.func86 rfl rfl rfl (by simp) (hf0.pers0.and (hf1.pers0.and (hf2.pers0.and cO))) ?_
 refine jJ Tryz.f86 2 [0,2,3] [vz,vi 0] (aB (jJ Tryz.f86 3 [0,2,3,10,11,12] [vs g 3 c,vi 3,vi 0] (aI ?_)))
 refine jY 4 ?_
 refine dI ?_
 refine jJ Tryz.f86 1 [0,2,3,10,11,12,13] [vT] (aB ?_)
 refine oY ?_
 refine aG (aA (aB (aI ?_)))
 refine sS Tryz.f86 4 [0,2,3,5,10,11,12,13,14,15] [] (fun ρ=>[pt g,.agg #[vi 1,.slice a0 (hL p).length c0,vi 0,vi 0],pt (nb ρ 2),undef]) (fun ρ=>[(2,(nw ρ 2 (cL #[vi 0,vz,vi 0,vi 0] 100))),(3,(bD 16 (nb ρ 2) (cL #[vi 1,.slice a0 (hL p).length c0,vi 0,vi 0] 100)))]) (cR [[]]<|cX (qF (v:=fun ρ=>(.agg #[vi 1,.slice a0 (hL p).length c0,vi 0,vi 0])) (fun _ _ _ hG=>pG (us:=[vi 1,.slice a0 (hL p).length c0,vi 0,vi 0]) (k:=0) Tryz.isAgg100 Tryz.sizeOf100 hG.fn.1 rfl (by decide) (fun j hj=>match j,hj with | 0,_=>rfl | 1,_=>rfl | 2,_=>rfl | 3,_=>rfl)))<|jE [[],[16]]) (fun ρ4=>?_)
 refine sS Tryz.f86 3 [0,2,3,5,6,10,11,12,13,14,15,16,17] [] (fun _=>[.agg #[vi 1,.slice a0 (hL p).length c0,vi 0,vi 0],vi 0,vi 0]) (fun _=>[]) (cR [[0]]<|cX (qC (fun _ _ w _=>rcheck1_any a0 c0 (hL p) (by rw [aO];decide) w))<|jE [[]]) (fun _=>?_)
 refine jJ Tryz.f86 2 [0,2,3,5,6,10,11,12,13,14,15,16,17,18,19] [vi 0,vF] ?_
 refine oN ?_
 refine aG (aJ (aA (jL Tryz.f86 2 [0,2,3,5,6,10,11,12,13,14,15,16,17,18,19,21] [] [vi 1,vi 1] [[],[]] (dV ?_))))
 refine dI ?_
 refine jJ Tryz.f86 1 [0,2,3,5,6,10,11,12,13,14,15,16,17,18,19,21] [vT] ?_
 refine lK [(0,(vs g 3 c)),(2,vz),(3,(vi 0)),(5,(pt (nb ρ4 2))),(6,(vi 0)),(10,(vs g 3 c)),(11,(vi 3)),(12,(vi 1)),(13,vT),(14,(pt g)),(15,(.agg #[vi 1,.slice a0 (hL p).length c0,vi 0,vi 0])),(16,(.agg #[vi 1,.slice a0 (hL p).length c0,vi 0,vi 0])),(17,(vi 0)),(18,(vi 0)),(19,vF),(21,(vi 1))] [(nb ρ4 2,(cL #[vi 1,.slice a0 (hL p).length c0,vi 0,vi 0] 100))] ?_
 refine aB ?_
 refine oY ?_
 refine aG (aA (aB (aI ?_)))
 refine sS Tryz.f86 4 [0,2,3,5,6,10,11,12,13,14,15,16,17,18,19,21] [0,1] (fun ρ=>[jp g 4,.agg #[vi 1,.slice a1 (hL q).length c1,vi 0,vi 0],pt (nb ρ 2),undef]) (fun ρ=>[(2,(nw ρ 2 (cL #[vi 0,vz,vi 0,vi 0] 100))),(3,(bD 17 (nb ρ 2) (cL #[vi 1,.slice a1 (hL q).length c1,vi 0,vi 0] 100)))]) (cR [[]]<|cX (qF (v:=fun ρ=>(.agg #[vi 1,.slice a1 (hL q).length c1,vi 0,vi 0])) (fun _ _ _ hG=>pG (us:=[vi 1,.slice a1 (hL q).length c1,vi 0,vi 0]) (k:=4) Tryz.isAgg100 Tryz.sizeOf100 hG.fn.1 rfl (by decide) (fun j hj=>match j,hj with | 0,_=>rfl | 1,_=>rfl | 2,_=>rfl | 3,_=>rfl)))<|jE [[],[17]]) (fun _=>?_)
 refine sS Tryz.f86 3 [0,2,3,5,6,10,11,12,13,14,15,16,17,18,19,21] [] (fun _=>[.agg #[vi 1,.slice a1 (hL q).length c1,vi 0,vi 0],vi 0,vi 0]) (fun _=>[]) (cR [[0]]<|cX (qC (fun _ _ w _=>rcheck1_any a1 c1 (hL q) (by rw [aO];decide) w))<|jE [[]]) (fun _=>?_)
 refine jJ Tryz.f86 2 [0,2,3,5,6,10,11,12,13,14,15,16,17,18,19,21] [vi 0,vF] ?_
 refine oN ?_
 refine aG (aJ (aA (jL Tryz.f86 2 [0,2,3,5,6,10,11,12,13,14,15,16,17,18,19,21] [] [vi 2,vi 2] [[],[]] (dV ?_))))
 refine dI ?_
 refine jJ Tryz.f86 1 [0,2,3,5,6,10,11,12,13,14,15,16,17,18,19,21] [vT] (aB ?_)
 refine oY ?_
 refine aG (aA (aB (aI ?_)))
 refine sS Tryz.f86 4 [0,2,3,5,6,10,11,12,13,14,15,16,17,18,19,21] [0,1] (fun ρ=>[jp g 8,.agg #[vi 11,vz,vi m,vi 2],pt (nb ρ 2),undef]) (fun ρ=>[(2,(nw ρ 2 (cL #[vi 0,vz,vi 0,vi 0] 100))),(3,(bD 17 (nb ρ 2) (cL #[vi 11,vz,vi m,vi 2] 100)))]) (cR [[]]<|cX (qF (v:=fun ρ=>(.agg #[vi 11,vz,vi m,vi 2])) (fun _ _ _ hG=>pG (us:=[vi 11,vz,vi m,vi 2]) (k:=8) Tryz.isAgg100 Tryz.sizeOf100 hG.fn.1 rfl (by decide) (fun j hj=>match j,hj with | 0,_=>rfl | 1,_=>rfl | 2,_=>rfl | 3,_=>rfl)))<|jE [[],[17]]) (fun ρ14=>?_)
 refine sS Tryz.f86 3 [0,2,3,5,6,10,11,12,13,14,15,16,17,18,19,21] [] (fun _=>[.agg #[vi 11,vz,vi m,vi 2],vi 0,vi 0]) (fun _=>[]) (cR [[0]]<|cC (fun _ w=>rcheckm2 m hm w)<|jE [[]]) (fun _=>?_)
 refine lK [(0,(vs g 3 c)),(2,vz),(3,(vi 0)),(5,(pt (nb ρ14 2))),(6,(vi 0)),(10,(vs g 3 c)),(11,(vi 3)),(12,(vi 2)),(13,vT),(14,(jp g 8)),(15,(.agg #[vi 11,vz,vi m,vi 2])),(16,(.agg #[vi 11,vz,vi m,vi 2])),(17,(vi 0)),(18,(vi 0)),(19,vF),(21,(vi 2))] [(nb ρ14 2,(cL #[vi 11,vz,vi m,vi 2] 100))] ?_
 refine jJ Tryz.f86 2 [0,2,3,5,6,10,11,12,13,14,15,16,17,18,19,21] [vi 0,vF] ?_
 refine oN ?_
 refine aG (aJ (aA (jL Tryz.f86 2 [0,2,3,5,6,10,11,12,13,14,15,16,17,18,19,21] [] [vi 3,vi 3] [[],[]] (dV ?_))))
 refine dI ?_
 refine jJ Tryz.f86 1 [0,2,3,5,6,10,11,12,13,14,15,16,17,18,19,21] [vF] (aB ?_)
 refine oN ?_
 refine bF (aN (aN (aT (aA (jM Tryz.f86 1 [0,2,3,7] [0] [vz] [[]] (aB (jJ Tryz.f86 3 [2,3,7,22,23,24] [vs g 3 c,vi 3,vi 0] (aI ?_))))))))
 refine jY 4 ?_
 refine dI ?_
 refine jJ Tryz.f86 1 [2,3,7,22,23,24,25] [vT] (aB ?_)
 refine oY ?_
 refine aG (aA (aB (aI ?_)))
 refine sS Tryz.f86 4 [2,3,7,9,22,23,24,25,26,27] [] (fun ρ=>[pt g,.agg #[vi 1,.slice a0 (hL p).length c0,vi 0,vi 0],pt (nb ρ 2),undef]) (fun ρ=>[(2,(nw ρ 2 (cL #[vi 0,vz,vi 0,vi 0] 100))),(3,(bD 16 (nb ρ 2) (cL #[vi 1,.slice a0 (hL p).length c0,vi 0,vi 0] 100)))]) (cR [[]]<|cX (qF (v:=fun ρ=>(.agg #[vi 1,.slice a0 (hL p).length c0,vi 0,vi 0])) (fun _ _ _ hG=>pG (us:=[vi 1,.slice a0 (hL p).length c0,vi 0,vi 0]) (k:=0) Tryz.isAgg100 Tryz.sizeOf100 hG.fn.1 rfl (by decide) (fun j hj=>match j,hj with | 0,_=>rfl | 1,_=>rfl | 2,_=>rfl | 3,_=>rfl)))<|jE [[],[16]]) (fun ρ22=>?_)
 refine lK [(2,vz),(3,(vi 0)),(7,vz),(9,(pt (nb ρ22 2))),(22,(vs g 3 c)),(23,(vi 3)),(24,(vi 0)),(25,vT),(26,(pt g)),(27,(.agg #[vi 1,.slice a0 (hL p).length c0,vi 0,vi 0]))] [(nb ρ22 2,(cL #[vi 1,.slice a0 (hL p).length c0,vi 0,vi 0] 100))] ?_
 refine iZ Tryz.f86 5 [2,3,7,9,22,23,24,25,26,27,28,29,30,31] [] (fun ρ=>let qa:=vs (nb ρ 3) (bQ (hL p)).length ((bQ (hL p)).length+aZ ρ 3);[vz,.agg #[vi 1,.slice a0 (hL p).length c0,vi 0,vi 0],.slice (oa ρ 2) (bQ (hL p)).length (nb ρ 2),qa,qa]) (fun ρ=>[(3,(nw ρ 3 (cL ((bs (bQ (hL p))).toArray++zB (aZ ρ 3)) 5)))]) (fun ρ=>[(2,fun w=>Fs w0 w (oa ρ 2) (nb ρ 2) (bQ (hL p)))]) (fun ρ=>(fun w=>Rs w (some ⟨g,0,none⟩) [vi 1,.slice a0 (hL p).length c0,vi 0,vi 0,vi 1,.slice a1 (hL q).length c1,vi 0,vi 0,vi 11,vz,vi m,vi 2]∧Bs w a0 c0 (hL p)∧Bs w a1 c1 (hL q)∧Fs w0 w (oa ρ 2) (nb ρ 2) (bQ (hL p))∧True)) (fun _=>True) (fun _ _ hF hf=>⟨⟨hF.1,hF.2.1,hF.2.2.1,hf 2,trivial⟩,trivial⟩) (cR [[],[0]]<|cX (qB (fun _ _ w hG=>tY a0 c0 (hL p) (by rw [aO];decide) w hG.fn.2.1))<|cX (qN (fun _ ζ=>(vs (ζ.headD 0) (bQ (hL p)).length ((bQ (hL p)).length+ζ.tail.headD 0))) (fun _ ζ=>(cL ((bs (bQ (hL p))).toArray++zB (ζ.tail.headD 0)) 5)) (fun ρ _ w hG=>oU (ty:=33) Tryz.underlying33 nH (Bs.src (tx:=33) Tryz.underlying33 (show Fs w0 w (oa ρ 2) (nb ρ 2) (bQ (hL p)) from (hG.facts 2 rfl).now).1) (qY _) (by rw [eG,aO];decide)))<|jE [[]]) (fun ρ23 _=>?_)
 refine sS Tryz.f86 3 [2,3,7,9,22,23,24,25,26,27,28,29,30,31,32,33,34] [] (fun _=>[vs (nb ρ23 3) (bQ (hL p)).length ((bQ (hL p)).length+aZ ρ23 3),vn (bQ (hL p)).length,vF]) (fun _=>[]) (cR [[],[]]<|jQ (fun ρ=>(decide (520<(((bQ (hL p)).length:Nat):Int)))) false (fun _=>(decide_eq_false (by simp only [eG,aO];omega)))<|cN) (fun _=>?_)
 refine oN ?_
 refine aG (aJ (aA (jL Tryz.f86 2 [2,3,7,9,22,23,24,25,26,27,28,29,30,31,32,33,34,35] [] [vi 1,vi 1] [[],[]] (dV ?_))))
 refine dI ?_
 refine jJ Tryz.f86 1 [2,3,7,9,22,23,24,25,26,27,28,29,30,31,32,33,34,35] [vT] (aB ?_)
 refine oY ?_
 refine aG (aA (aB (aI ?_)))
 refine sS Tryz.f86 4 [2,3,7,9,22,23,24,25,26,27,28,29,30,31,32,33,34,35] [0,1,1] (fun ρ=>[jp g 4,.agg #[vi 1,.slice a1 (hL q).length c1,vi 0,vi 0],pt (nb ρ 2),undef]) (fun ρ=>[(2,(nw ρ 2 (cL #[vi 0,vz,vi 0,vi 0] 100))),(3,(bD 18 (nb ρ 2) (cL #[vi 1,.slice a1 (hL q).length c1,vi 0,vi 0] 100)))]) (cR [[]]<|cX (qF (v:=fun ρ=>(.agg #[vi 1,.slice a1 (hL q).length c1,vi 0,vi 0])) (fun _ _ _ hG=>pG (us:=[vi 1,.slice a1 (hL q).length c1,vi 0,vi 0]) (k:=4) Tryz.isAgg100 Tryz.sizeOf100 hG.fn.1 rfl (by decide) (fun j hj=>match j,hj with | 0,_=>rfl | 1,_=>rfl | 2,_=>rfl | 3,_=>rfl)))<|jE [[],[18]]) (fun ρ27=>?_)
 refine iZ Tryz.f86 5 [2,3,7,9,22,23,24,25,26,27,28,29,30,31,32,33,34,35] [] (fun ρ=>let qa:=vs (nb ρ 3) ((bQ (hL p))++(bQ (hL q))).length (aZ ρ 3);[vs (nb ρ23 3) (bQ (hL p)).length ((bQ (hL p)).length+aZ ρ23 3),.agg #[vi 1,.slice a1 (hL q).length c1,vi 0,vi 0],.slice (oa ρ 2) (bQ (hL q)).length (nb ρ 2),qa,qa]) (fun ρ=>[(3,(bD 0 (nb ρ 3) (cL (oc ρ 3) 5)))]) (fun ρ=>[(2,fun w=>Fs w0 w (oa ρ 2) (nb ρ 2) (bQ (hL q))),(3,fun w=>Ap (oc ρ 3) ((bQ (hL p))++(bQ (hL q))) (aZ ρ 3))]) (fun ρ=>(fun w=>Rs w (some ⟨g,0,none⟩) [vi 1,.slice a0 (hL p).length c0,vi 0,vi 0,vi 1,.slice a1 (hL q).length c1,vi 0,vi 0,vi 11,vz,vi m,vi 2]∧Bs w a0 c0 (hL p)∧Bs w a1 c1 (hL q)∧Fs w0 w (oa ρ23 2) (nb ρ23 2) (bQ (hL p))∧Fs w0 w (oa ρ 2) (nb ρ 2) (bQ (hL q))∧True)) (fun ρ=>Ap (oc ρ 3) ((bQ (hL p))++(bQ (hL q))) (aZ ρ 3)) (fun _ _ hF hf=>⟨⟨hF.1,hF.2.1,hF.2.2.1,hF.2.2.2.1,hf 2,trivial⟩,hf 3⟩) (cR [[],[1]]<|cX (qB (fun _ _ w hG=>tY a1 c1 (hL q) (by rw [aO];decide) w hG.fn.2.2.1))<|cX (qM 0 (fun ρ _ w hG hg=>app_any (ty:=33) (g:=nb ρ23 3) (C:=((bs (bQ (hL p))).toArray++zB (aZ ρ23 3))) (c:=(bQ (hL p)).length+aZ ρ23 3) (xs:=bQ (hL p)) Tryz.underlying33 nH (Ap.mk' (Hd.fresh _ _) (Nat.le_add_right _ _) (by rw [eG,aO];decide) (kV _ _)) (Bs.src (tx:=33) Tryz.underlying33 (show Fs w0 w (oa ρ 2) (nb ρ 2) (bQ (hL q)) from (hG.facts 2 rfl).now).1) (by simp only [eG,aO];omega) hg))<|jE [[]]) (fun ρ28 ap28_3=>?_)
 refine sS Tryz.f86 3 [2,3,7,9,22,23,24,25,26,27,28,29,30,31,32,33,34,35] [] (fun _=>[vs (nb ρ28 3) ((bQ (hL p))++(bQ (hL q))).length (aZ ρ28 3),vn ((bQ (hL p))++(bQ (hL q))).length,vF]) (fun _=>[]) (cR [[],[]]<|jQ (fun ρ=>(decide (520<((((bQ (hL p))++(bQ (hL q))).length:Nat):Int)))) false (fun _=>(decide_eq_false (by simp only [List.length_append,eG,aO];omega)))<|cN) (fun _=>?_)
 refine lK [(2,vz),(3,(vi 0)),(7,(vs (nb ρ28 3) ((bQ (hL p))++(bQ (hL q))).length (aZ ρ28 3))),(9,(pt (nb ρ27 2))),(22,(vs g 3 c)),(23,(vi 3)),(24,(vi 1)),(25,vT),(26,(jp g 4)),(27,(.agg #[vi 1,.slice a1 (hL q).length c1,vi 0,vi 0])),(28,(vs (nb ρ23 3) (bQ (hL p)).length ((bQ (hL p)).length+aZ ρ23 3))),(29,(.agg #[vi 1,.slice a1 (hL q).length c1,vi 0,vi 0])),(30,(.slice (oa ρ28 2) (bQ (hL q)).length (nb ρ28 2))),(31,(vs (nb ρ28 3) ((bQ (hL p))++(bQ (hL q))).length (aZ ρ28 3))),(32,(vs (nb ρ28 3) ((bQ (hL p))++(bQ (hL q))).length (aZ ρ28 3))),(33,(vn ((bQ (hL p))++(bQ (hL q))).length)),(34,vF),(35,(vi 1))] [(nb ρ28 3,(cL (oc ρ28 3) 5)),(nb ρ27 2,(cL #[vi 1,.slice a1 (hL q).length c1,vi 0,vi 0] 100))] ?_
 refine oN ?_
 refine aG (aJ (aA (jL Tryz.f86 2 [2,3,7,9,22,23,24,25,26,27,28,29,30,31,32,33,34,35] [] [vi 2,vi 2] [[],[]] (dV ?_))))
 refine dI ?_
 refine jJ Tryz.f86 1 [2,3,7,9,22,23,24,25,26,27,28,29,30,31,32,33,34,35] [vT] (aB ?_)
 refine oY ?_
 refine aG (aA (aB (aI ?_)))
 refine sS Tryz.f86 4 [2,3,7,9,22,23,24,25,26,27,28,29,30,31,32,33,34,35] [1,0,1] (fun ρ=>[jp g 8,.agg #[vi 11,vz,vi m,vi 2],pt (nb ρ 2),undef]) (fun ρ=>[(2,(nw ρ 2 (cL #[vi 0,vz,vi 0,vi 0] 100))),(3,(bD 18 (nb ρ 2) (cL #[vi 11,vz,vi m,vi 2] 100)))]) (cR [[]]<|cX (qF (v:=fun ρ=>(.agg #[vi 11,vz,vi m,vi 2])) (fun _ _ _ hG=>pG (us:=[vi 11,vz,vi m,vi 2]) (k:=8) Tryz.isAgg100 Tryz.sizeOf100 hG.fn.1 rfl (by decide) (fun j hj=>match j,hj with | 0,_=>rfl | 1,_=>rfl | 2,_=>rfl | 3,_=>rfl)))<|jE [[],[18]]) (fun ρ32=>?_)
 refine iZ Tryz.f86 5 [2,3,7,9,22,23,24,25,26,27,28,29,30,31,32,33,34,35] [] (fun ρ=>let qa:=vs (nb ρ 3) (((bQ (hL p))++(bQ (hL q)))++([ob 11,ob m,ob 2])).length (aZ ρ 3);[vs (nb ρ28 3) ((bQ (hL p))++(bQ (hL q))).length (aZ ρ28 3),.agg #[vi 11,vz,vi m,vi 2],.slice (oa ρ 2) ([ob 11,ob m,ob 2]).length (nb ρ 2),qa,qa]) (fun ρ=>[(3,(bD 0 (nb ρ 3) (cL (oc ρ 3) 5)))]) (fun ρ=>[(2,fun w=>Fs w0 w (oa ρ 2) (nb ρ 2) ([ob 11,ob m,ob 2])),(3,fun w=>Ap (oc ρ 3) (((bQ (hL p))++(bQ (hL q)))++([ob 11,ob m,ob 2])) (aZ ρ 3))]) (fun ρ=>(fun w=>Rs w (some ⟨g,0,none⟩) [vi 1,.slice a0 (hL p).length c0,vi 0,vi 0,vi 1,.slice a1 (hL q).length c1,vi 0,vi 0,vi 11,vz,vi m,vi 2]∧Bs w a0 c0 (hL p)∧Bs w a1 c1 (hL q)∧Fs w0 w (oa ρ23 2) (nb ρ23 2) (bQ (hL p))∧Fs w0 w (oa ρ28 2) (nb ρ28 2) (bQ (hL q))∧Fs w0 w (oa ρ 2) (nb ρ 2) ([ob 11,ob m,ob 2])∧True)) (fun ρ=>Ap (oc ρ 3) (((bQ (hL p))++(bQ (hL q)))++([ob 11,ob m,ob 2])) (aZ ρ 3)) (fun _ _ hF hf=>⟨⟨hF.1,hF.2.1,hF.2.2.1,hF.2.2.2.1,hF.2.2.2.2.1,hf 2,trivial⟩,hf 3⟩) (cR [[],[1]]<|cX (qB (fun _ _ w _=>rencodem2 m hm w))<|cX (qM 0 (fun ρ _ w hG hg=>app_any (ty:=33) (g:=nb ρ28 3) (C:=(oc ρ28 3)) (c:=aZ ρ28 3) (xs:=(bQ (hL p))++(bQ (hL q))) Tryz.underlying33 nH (Ap.mk' ap28_3.hd ap28_3.le ap28_3.max ap28_3.size) (Bs.src (tx:=33) Tryz.underlying33 (show Fs w0 w (oa ρ 2) (nb ρ 2) ([ob 11,ob m,ob 2]) from (hG.facts 2 rfl).now).1) (by simp only [List.length_append,List.length_cons,List.length_nil,eG,aO];omega) hg))<|jE [[]]) (fun ρ33 ap33_3=>?_)
 refine sS Tryz.f86 3 [2,3,7,9,22,23,24,25,26,27,28,29,30,31,32,33,34,35] [] (fun _=>[vs (nb ρ33 3) (((bQ (hL p))++(bQ (hL q)))++([ob 11,ob m,ob 2])).length (aZ ρ33 3),vn (((bQ (hL p))++(bQ (hL q)))++([ob 11,ob m,ob 2])).length,vF]) (fun _=>[]) (cR [[],[]]<|jQ (fun ρ=>(decide (520<(((((bQ (hL p))++(bQ (hL q)))++([ob 11,ob m,ob 2])).length:Nat):Int)))) false (fun _=>(decide_eq_false (by simp only [List.length_append,List.length_cons,List.length_nil,eG,aO];omega)))<|cN) (fun _=>?_)
 refine oN ?_
 refine aG (aJ (aA (jL Tryz.f86 2 [2,3,7,9,22,23,24,25,26,27,28,29,30,31,32,33,34,35] [] [vi 3,vi 3] [[],[]] (dV ?_))))
 refine dI ?_
 refine jJ Tryz.f86 1 [2,3,7,9,22,23,24,25,26,27,28,29,30,31,32,33,34,35] [vF] ?_
 refine lK [(2,vz),(3,(vi 0)),(7,(vs (nb ρ33 3) (((bQ (hL p))++(bQ (hL q)))++([ob 11,ob m,ob 2])).length (aZ ρ33 3))),(9,(pt (nb ρ32 2))),(22,(vs g 3 c)),(23,(vi 3)),(24,(vi 3)),(25,vF),(26,(jp g 8)),(27,(.agg #[vi 11,vz,vi m,vi 2])),(28,(vs (nb ρ28 3) ((bQ (hL p))++(bQ (hL q))).length (aZ ρ28 3))),(29,(.agg #[vi 11,vz,vi m,vi 2])),(30,(.slice (oa ρ33 2) ([ob 11,ob m,ob 2]).length (nb ρ33 2))),(31,(vs (nb ρ33 3) (((bQ (hL p))++(bQ (hL q)))++([ob 11,ob m,ob 2])).length (aZ ρ33 3))),(32,(vs (nb ρ33 3) (((bQ (hL p))++(bQ (hL q)))++([ob 11,ob m,ob 2])).length (aZ ρ33 3))),(33,(vn (((bQ (hL p))++(bQ (hL q)))++([ob 11,ob m,ob 2])).length)),(34,vF),(35,(vi 3))] [(nb ρ33 3,(cL (oc ρ33 3) 5)),(nb ρ32 2,(cL #[vi 11,vz,vi m,vi 2] 100))] ?_
 refine aB ?_
 refine oN ?_
 refine bF (aN (aN (aT (aA (jM Tryz.f86 3 [2,3] [1,0] (let qa:=vs (nb ρ33 3) (((bQ (hL p))++(bQ (hL q)))++([ob 11,ob m,ob 2])).length (aZ ρ33 3);[qa,qa,vi 0]) [[],[],[]] (aF (mD [(2,(vs (nb ρ33 3) (((bQ (hL p))++(bQ (hL q)))++([ob 11,ob m,ob 2])).length (aZ ρ33 3))),(3,(vi 0))] [(nb ρ33 3,(cL (oc ρ33 3) 5))] ?_)))))))
 exact mR (v:=(.tuple #[vs (nb ρ33 3) (((bQ (hL p))++(bQ (hL q)))++([ob 11,ob m,ob 2])).length (aZ ρ33 3),vi 0])) (fun _ hS=>⟨some ⟨nb ρ33 3,0,none⟩,aZ ρ33 3,congrArg Ending.returned (rfl),hS.bel,dU (rfl) (hS.fresh (.head _) ap33_3.hd ap33_3.le ap33_3.max)⟩)
theorem rmulti2 (m:Int) (a:Option Addr) (c:Nat) (p:Nat) (q:Nat) (hp:p<M) (hq:q<M) (hm:1≤m∧m≤2) (w0:World) (hf0:Us w0 a c ([p,q])):Calls Tryz.prog 49 #[vi m,.slice a ([p,q]).length c] w0 (fun ε w'=>∃ α κ,ε=.returned (.tuple #[.slice α (mlB m [p,q]).length κ,vi 0])∧jG w0 w'∧Fs w0 w' α κ (mlB m [p,q])):=by
 refine Calls.of_ok (n:=32) (F:=(fun w=>Us w a c ([p,q])∧True)) Tryz.func49 rfl rfl rfl (by simp) (hf0.pers0.and cO) ?_
 refine jJ Tryz.f49 2 [0,1,4,5] [vz,vi 0] (jJ Tryz.f49 1 [0,1,4,5,6] [vz] (aB (jJ Tryz.f49 3 [0,1,4,5,6,9,10,11] [.slice a ([p,q]).length c,vi 2,vi 0] (aI ?_))))
 refine jY 3 ?_
 refine dI ?_
 refine jJ Tryz.f49 1 [0,1,4,5,6,9,10,11,12] [vT] (aB ?_)
 refine oY ?_
 refine aG (aA (aB (aI ?_)))
 refine sS Tryz.f49 4 [0,1,4,5,6,8,9,10,11,12,13,14] [] (fun ρ=>[.pointer (fK a (0*4)),U p,pt (nb ρ 2),undef]) (fun ρ=>[(2,(nw ρ 2 (cL (cU 0) 39))),(3,(bD 16 (nb ρ 2) (cL (cU p) 39)))]) (cX (qF (fun _ _ _ hG=>Us.idx (k:=.i64) Tryz.underlying29 Tryz.sizeOf39 hG.fn.1 rfl (show (0:Int)=((0:Nat):Int) from rfl) (show 0<([p,q]).length from Nat.le_of_ble_eq_true rfl)))<|cX (qF (fun _ _ _ hG=>Us.ldA Tryz.isAgg39 Tryz.sizeOf39 hG.fn.1 (show 0<([p,q]).length from Nat.le_of_ble_eq_true rfl)))<|jE [[],[16]]) (fun ρ5=>?_)
 refine rSf Tryz.f49 7 [0,1,4,5,6,8,9,10,11,12,13,14,15,16,17,18,19,20] [] (fun ρ=>let qa:Value:=.slice (oa ρ 2) (hL p).length (nb ρ 2);let qb:=vs (nb ρ 5) 1 (1+aZ ρ 5);[vz,U p,qa,.agg #[vi 1,qa,vi 0,vi 0],vs (nb ρ 4) 1 1,qb,qb]) (fun ρ=>let qa:Value:=.slice (oa ρ 2) (hL p).length (nb ρ 2);[(4,(nw ρ 4 (cL #[vi 1,qa,vi 0,vi 0] 100))),(5,(nw ρ 5 (cL ([vi 1,qa,vi 0,vi 0].toArray++Builtin.zeroCells (Value.cells (.agg #[vi 0,vz,vi 0,vi 0])) (aZ ρ 5)) 100)))]) (fun ρ=>[(2,fun w=>Fs w0 w (oa ρ 2) (nb ρ 2) (hL p))]) (fun ρ=>(fun w=>Us w a c ([p,q])∧Fs w0 w (oa ρ 2) (nb ρ 2) (hL p)∧True)) (fun _=>True) (fun _ _ hF hf=>⟨⟨hF.1,hf 2,trivial⟩,trivial⟩) (cR [[],[0]]<|cX (qB (fun _ _ w _=>rkey_any p hp w))<|cR [[],[]]<|cX (qN (fun _ ζ=>(vs (ζ.headD 0) 1 (1+ζ.tail.headD 0))) (fun ρ ζ=>(cL ([vi 1,.slice (oa ρ 2) (hL p).length (nb ρ 2),vi 0,vi 0].toArray++Builtin.zeroCells (Value.cells (.agg #[vi 0,vz,vi 0,vi 0])) (ζ.tail.headD 0)) 100)) (fun ρ _ _ hG=>uV (ty:=98) Tryz.underlying98 (dA (sz:=4) (b:=48) (z:=(.agg #[vi 0,vz,vi 0,vi 0])) (by kernel_rfl) rfl) (nX (c:=1) (vs:=[vi 1,.slice (oa ρ 2) (hL p).length (nb ρ 2),vi 0,vi 0]) Tryz.underlying98 (hG.kn (g:=nb ρ 4) (o:=(cL #[vi 1,.slice (oa ρ 2) (hL p).length (nb ρ 2),vi 0,vi 0] 100)) 33) rfl rfl) (by decide) (by decide) (by decide)))<|jE [[]]) (fun ρ6 _=>?_)
 refine aJ (aA (jL Tryz.f49 2 [0,1,4,5,6,8,9,10,11,12,13,14,15,16,17,18,19,20,21] [] [vi 1,vi 1] [[],[]] (dV ?_)))
 refine dI ?_
 refine jJ Tryz.f49 1 [0,1,4,5,6,8,9,10,11,12,13,14,15,16,17,18,19,20,21] [vT] ?_
 refine lK [(0,(vi m)),(1,(.slice a ([p,q]).length c)),(4,vz),(5,(vi 0)),(6,(vs (nb ρ6 5) 1 (1+aZ ρ6 5))),(8,(pt (nb ρ5 2))),(9,(.slice a ([p,q]).length c)),(10,(vi 2)),(11,(vi 1)),(12,vT),(13,(.pointer (fK a (0*4)))),(14,(U p)),(15,vz),(16,(U p)),(17,(.slice (oa ρ6 2) (hL p).length (nb ρ6 2))),(18,(.agg #[vi 1,.slice (oa ρ6 2) (hL p).length (nb ρ6 2),vi 0,vi 0])),(19,(vs (nb ρ6 4) 1 1)),(20,(vs (nb ρ6 5) 1 (1+aZ ρ6 5))),(21,(vi 1))] [(nb ρ5 2,(cL (cU p) 39)),(nb ρ6 4,(cL #[vi 1,.slice (oa ρ6 2) (hL p).length (nb ρ6 2),vi 0,vi 0] 100)),(nb ρ6 5,(cL ([vi 1,.slice (oa ρ6 2) (hL p).length (nb ρ6 2),vi 0,vi 0].toArray++Builtin.zeroCells (Value.cells (.agg #[vi 0,vz,vi 0,vi 0])) (aZ ρ6 5)) 100))] ?_
 refine aB ?_
 refine oY ?_
 refine aG (aA (aB (aI ?_)))
 refine sS Tryz.f49 4 [0,1,4,5,6,8,9,10,11,12,13,14,15,16,17,18,19,20,21] [] (fun ρ=>[.pointer (fK a (1*4)),U q,pt (nb ρ 2),undef]) (fun ρ=>[(2,(nw ρ 2 (cL (cU 0) 39))),(3,(bD 19 (nb ρ 2) (cL (cU q) 39)))]) (cX (qF (fun _ _ _ hG=>Us.idx (k:=.i64) Tryz.underlying29 Tryz.sizeOf39 hG.fn.1 rfl (show (1:Int)=((1:Nat):Int) from rfl) (show 1<([p,q]).length from Nat.le_of_ble_eq_true rfl)))<|cX (qF (fun _ _ _ hG=>Us.ldA Tryz.isAgg39 Tryz.sizeOf39 hG.fn.1 (show 1<([p,q]).length from Nat.le_of_ble_eq_true rfl)))<|jE [[],[19]]) (fun ρ9=>?_)
 refine rSf Tryz.f49 7 [0,1,4,5,6,8,9,10,11,12,13,14,15,16,17,18,19,20,21] [] (fun ρ=>let qa:Value:=.slice (oa ρ 2) (hL q).length (nb ρ 2);let qb:=vs (nb ρ 5) 2 (aZ ρ 5);[vs (nb ρ6 5) 1 (1+aZ ρ6 5),U q,qa,.agg #[vi 1,qa,vi 0,vi 0],vs (nb ρ 4) 1 1,qb,qb]) (fun ρ=>[(4,(nw ρ 4 (cL #[vi 1,.slice (oa ρ 2) (hL q).length (nb ρ 2),vi 0,vi 0] 100))),(5,(bD 2 (nb ρ 5) (cL (oc ρ 5) 100)))]) (fun ρ=>[(2,fun w=>Fs w0 w (oa ρ 2) (nb ρ 2) (hL q)),(5,fun w=>Av (oc ρ 5) 4 2 [vi 1,.slice (oa ρ6 2) (hL p).length (nb ρ6 2),vi 0,vi 0,vi 1,.slice (oa ρ 2) (hL q).length (nb ρ 2),vi 0,vi 0] (aZ ρ 5))]) (fun ρ=>(fun w=>Us w a c ([p,q])∧Fs w0 w (oa ρ6 2) (nb ρ6 2) (hL p)∧Fs w0 w (oa ρ 2) (nb ρ 2) (hL q)∧True)) (fun ρ=>Av (oc ρ 5) 4 2 [vi 1,.slice (oa ρ6 2) (hL p).length (nb ρ6 2),vi 0,vi 0,vi 1,.slice (oa ρ 2) (hL q).length (nb ρ 2),vi 0,vi 0] (aZ ρ 5)) (fun _ _ hF hf=>⟨⟨hF.1,hF.2.1,hf 2,trivial⟩,hf 5⟩) (cR [[],[3]]<|cX (qB (fun _ _ w _=>rkey_any q hq w))<|cR [[],[]]<|cX (qM 2 (fun ρ _ _ hG hg=>sN (ty:=98) (g:=nb ρ6 5) Tryz.underlying98 (dA (sz:=4) (b:=48) (z:=(.agg #[vi 0,vz,vi 0,vi 0])) (by kernel_rfl) rfl) (Av.fresh (z:=(.agg #[vi 0,vz,vi 0,vi 0])) (m:=1) rfl (ys:=[vi 1,.slice (oa ρ6 2) (hL p).length (nb ρ6 2),vi 0,vi 0]) rfl (aZ ρ6 5)) (nX (c:=1) (vs:=[vi 1,.slice (oa ρ 2) (hL q).length (nb ρ 2),vi 0,vi 0]) Tryz.underlying98 (hG.kn (g:=nb ρ 4) (o:=(cL #[vi 1,.slice (oa ρ 2) (hL q).length (nb ρ 2),vi 0,vi 0] 100)) 36) rfl rfl) (by decide) (by decide) hg))<|jE [[]]) (fun ρ10 ap10_5=>?_)
 refine aJ (aA (jL Tryz.f49 2 [0,1,4,5,6,8,9,10,11,12,13,14,15,16,17,18,19,20,21] [] [vi 2,vi 2] [[],[]] (dV ?_)))
 refine dI ?_
 refine jJ Tryz.f49 1 [0,1,4,5,6,8,9,10,11,12,13,14,15,16,17,18,19,20,21] [vF] (aB ?_)
 refine oN ?_
 refine bF (aN (aN (aT (aA ?_))))
 refine iZ Tryz.f49 12 [4,5] [] (fun ρ=>let qa:Value:=.slice (oa ρ 7) (((bQ (hL p))++(bQ (hL q)))++([ob 11,ob m,ob 2])).length (nb ρ 7);[vs (nb ρ10 5) 2 (aZ ρ10 5),vi m,.slice a ([p,q]).length c,vi 2,.agg #[vi 11,vz,vi m,vi 2],vs (nb ρ 5) 1 1,vs (nb ρ 6) 3 (aZ ρ 6),.tuple #[qa,vi 0],qa,vi 0,qa,vi 0]) (fun ρ=>[(5,(nw ρ 5 (cL #[vi 11,vz,vi m,vi 2] 100))),(6,(bD 2 (nb ρ 6) (cL (oc ρ 6) 100)))]) (fun ρ=>[(6,fun w=>Av (oc ρ 6) 4 3 [vi 1,.slice (oa ρ6 2) (hL p).length (nb ρ6 2),vi 0,vi 0,vi 1,.slice (oa ρ10 2) (hL q).length (nb ρ10 2),vi 0,vi 0,vi 11,vz,vi m,vi 2] (aZ ρ 6)),(7,fun w=>Fs w0 w (oa ρ 7) (nb ρ 7) (((bQ (hL p))++(bQ (hL q)))++([ob 11,ob m,ob 2])))]) (fun ρ=>(fun w=>Us w a c ([p,q])∧Fs w0 w (oa ρ6 2) (nb ρ6 2) (hL p)∧Fs w0 w (oa ρ10 2) (nb ρ10 2) (hL q)∧Fs w0 w (oa ρ 7) (nb ρ 7) (((bQ (hL p))++(bQ (hL q)))++([ob 11,ob m,ob 2]))∧True)) (fun ρ=>Av (oc ρ 6) 4 3 [vi 1,.slice (oa ρ6 2) (hL p).length (nb ρ6 2),vi 0,vi 0,vi 1,.slice (oa ρ10 2) (hL q).length (nb ρ10 2),vi 0,vi 0,vi 11,vz,vi m,vi 2] (aZ ρ 6)) (fun _ _ hF hf=>⟨⟨hF.1,hF.2.1,hF.2.2.1,hf 7,trivial⟩,hf 6⟩) (cR [[],[],[],[],[],[]]<|cX (qM 2 (fun ρ _ _ hG hg=>sN (ty:=98) (g:=nb ρ10 5) Tryz.underlying98 (dA (sz:=4) (b:=48) (z:=(.agg #[vi 0,vz,vi 0,vi 0])) (by kernel_rfl) rfl) ap10_5 (nX (c:=1) (vs:=[vi 11,vz,vi m,vi 2]) Tryz.underlying98 (hG.kn (g:=nb ρ 5) (o:=(cL #[vi 11,vz,vi m,vi 2] 100)) 45) rfl rfl) (by decide) (by decide) hg))<|cX (qB (fun ρ _ w hG=>rasm2 (nb ρ 6) (aZ ρ 6) (oa ρ6 2) (nb ρ6 2) p (oa ρ10 2) (nb ρ10 2) q m hm w (Rs.of_av (hG.kn (g:=nb ρ 6) (o:=(cL (oc ρ 6) 100)) 2) (show Av (oc ρ 6) 4 3 [vi 1,.slice (oa ρ6 2) (hL p).length (nb ρ6 2),vi 0,vi 0,vi 1,.slice (oa ρ10 2) (hL q).length (nb ρ10 2),vi 0,vi 0,vi 11,vz,vi m,vi 2] (aZ ρ 6) from (hG.facts 6 rfl).now)) hG.fn.2.1.1 hG.fn.2.2.1.1))<|jE [[],[],[],[]]) (fun ρ13 ap13_6=>?_)
 refine aF (mD [(4,(.slice (oa ρ13 7) (((bQ (hL p))++(bQ (hL q)))++([ob 11,ob m,ob 2])).length (nb ρ13 7))),(5,(vi 0))] [(nb ρ5 2,(cL (cU p) 39)),(nb ρ6 4,(cL #[vi 1,.slice (oa ρ6 2) (hL p).length (nb ρ6 2),vi 0,vi 0] 100)),(nb ρ13 6,(cL (oc ρ13 6) 100)),(nb ρ9 2,(cL (cU q) 39)),(nb ρ10 4,(cL #[vi 1,.slice (oa ρ10 2) (hL q).length (nb ρ10 2),vi 0,vi 0] 100)),(nb ρ13 5,(cL #[vi 11,vz,vi m,vi 2] 100))] ?_)
 exact mR (v:=(.tuple #[.slice (oa ρ13 7) (((bQ (hL p))++(bQ (hL q)))++([ob 11,ob m,ob 2])).length (nb ρ13 7),vi 0])) (fun _ hS=>⟨oa ρ13 7,nb ρ13 7,congrArg Ending.returned (rfl),hS.bel,dU (rfl) hS.facts.now.2.2.2.1⟩)
theorem rmulti_any (m:Int) (a:Option Addr) (c:Nat) (ns:List Nat) (hU:∀ n∈ns,n<M) (hl:ns.length=2) (hm:1≤m∧m≤ns.length) (w0:World) (hf0:Us w0 a c ns):Calls Tryz.prog 49 #[.int .i64 m,.slice a ns.length c] w0 (fun ε w'=>∃ α κ,ε=.returned (.tuple #[.slice α (mlB m ns).length κ,.int .i64 0])∧jG w0 w'∧Fs w0 w' α κ (mlB m ns)):=by
  match ns,hl with
  | [p,q],_=>exact rmulti2 m a c p q (hU p (by simp)) (hU q (by simp)) hm w0 hf0
  | [],h=>simp at h
  | [_],h=>simp at h
  | _::_::_::_,h=>simp at h
def BlC (ts:List bW) (ns:List Nat) (x:List UInt8) (n m:Nat):Prop:=∀ (a b:Option Addr) (c d:Nat) (w0:World),bM w0 a c ts→Us w0 b d ns→Calls Tryz.prog 27 #[.slice a ts.length c,.slice b ns.length d] w0 (fun ε w'=>∃ α κ,ε=.returned (.tuple #[.slice α x.length κ,.int .i64 ((n:Nat):Int),.int .i64 ((m:Nat):Int)])∧jG w0 w'∧Fs w0 w' α κ x)
theorem build1_any (a:Option Addr) (c:Nat) (ts:List bW) (b:Option Addr) (d:Nat) (ns:List Nat) (hk:(gT ts 0).kd=1) (h0:0<ts.length) (hfd:(gT ts 0).fd=true) (hks:(gT ts 0).ks.length≤ns.length) (_ho:mP ts) (hU:∀ n∈ns,n<M) (w0:World) (hf0:bM w0 a c ts) (hf1:Us w0 b d ns):Calls Tryz.prog 27 #[.slice a ts.length c,.slice b ns.length d] w0 (fun ε w'=>∃ α κ,ε=.returned (.tuple #[.slice α (sgB (ns.getD 0 0)).length κ,vi 1,vi 1])∧jG w0 w'∧Fs w0 w' α κ (sgB (ns.getD 0 0))):=by
 refine Calls.of_ok (n:=103) (F:=(fun w=>bM w a c ts∧Us w b d ns∧True)) Tryz.func27 rfl rfl rfl (by simp) (hf0.pers0.and (hf1.pers0.and cO)) ?_
 refine jJ Tryz.f27 3 [0,1,4,5,6] [vz,vi 0,vi 0] ?_
 refine sS Tryz.f27 5 [0,1,4,5,6,7] [] (fun ρ=>[.slice a ts.length c,.pointer (fK a (0*36)),.agg (bW.row (gT ts 0)),pt (nb ρ 3),undef]) (fun ρ=>[(3,(nw ρ 3 (cL (iC 0 0 0 0 vz) 46))),(4,(bD 24 (nb ρ 3) (cL (bW.row (gT ts 0)) 46)))]) (cR [[]]<|cX (qF (fun _ _ _ hG=>bM.idx (k:=.i64) Tryz.underlying24 Tryz.sizeOf46 hG.fn.1 rfl (show (0:Int)=((0:Nat):Int) from rfl) (show 0<ts.length from h0)))<|cX (qF (fun _ _ _ hG=>bM.ldA (i:=0) Tryz.isAgg46 Tryz.sizeOf46 hG.fn.1 (show 0<ts.length from h0)))<|jE [[],[24]]) (fun ρ2=>?_)
 refine aB (jM Tryz.f27 2 [0,1,4,5,6,7,20] [] [pt (nb ρ2 3),vi (gT ts 0).kd] [[],[0]] (aI ?_))
 refine sS Tryz.f27 2 [0,1,4,5,6,7,20,21] [] (fun _=>[vT,vT]) (fun _=>[]) (jQ (fun ρ=>((gT ts 0).kd==1)) true (fun _=>(jK hk rfl))<|jE [[]]) (fun _=>?_)
 refine oY ?_
 refine iZ Tryz.f27 7 [0,1,4,5,6,7] [] (fun ρ=>let qa:Value:=.slice (oa ρ 3) (sgB (gU ns 0)).length (nb ρ 3);[.slice b ns.length d,.pointer (fK b (0*4)),U (gU ns 0),qa,qa,vi 1,vi 1]) (fun _=>[]) (fun ρ=>[(3,fun w=>Fs w0 w (oa ρ 3) (nb ρ 3) (sgB (gU ns 0)))]) (fun ρ=>(fun w=>bM w a c ts∧Us w b d ns∧Fs w0 w (oa ρ 3) (nb ρ 3) (sgB (gU ns 0))∧True)) (fun _=>True) (fun _ _ hF hf=>⟨⟨hF.1,hF.2.1,hf 3,trivial⟩,trivial⟩) (cR [[]]<|cX (qF (fun _ _ _ hG=>Us.idx (k:=.i64) Tryz.underlying29 Tryz.sizeOf39 hG.fn.2.1 rfl (show (0:Int)=((0:Nat):Int) from rfl) (show 0<ns.length from (by have:=hks;have h1:0<(gT ts 0).ks.length:=(by have:=(qO _ _ _ _ _).1 hfd;unfold o7 at this;omega);omega))))<|cX (qF (fun _ _ _ hG=>Us.ldA Tryz.isAgg39 Tryz.sizeOf39 hG.fn.2.1 (show 0<ns.length from (by have:=hks;have h1:0<(gT ts 0).ks.length:=(by have:=(qO _ _ _ _ _).1 hfd;unfold o7 at this;omega);omega))))<|cX (qB (fun _ _ w _=>rsingle_any (gU ns 0) (gU_ok hU 0) w))<|jE [[],[],[]]) (fun ρ5 _=>?_)
 refine aF (aP (aC (mD [(0,(.slice a ts.length c)),(1,(.slice b ns.length d)),(4,(.slice (oa ρ5 3) (sgB (gU ns 0)).length (nb ρ5 3))),(5,(vi 1)),(6,(vi 1)),(7,(pt (nb ρ2 3)))] [(nb ρ2 3,(cL (bW.row (gT ts 0)) 46))] ?_)))
 exact mR (v:=(.tuple #[.slice (oa ρ5 3) (sgB (gU ns 0)).length (nb ρ5 3),vi 1,vi 1])) (fun _ hS=>⟨oa ρ5 3,nb ρ5 3,congrArg Ending.returned (rfl),hS.bel,dU (rfl) hS.facts.now.2.2.1⟩)
theorem build2_any (a:Option Addr) (c:Nat) (ts:List bW) (b:Option Addr) (d:Nat) (ns:List Nat) (hk:(gT ts 0).kd=2) (h0:0<ts.length) (hfd:(gT ts 0).fd=true) (hks:(gT ts 0).ks.length≤ns.length) (_ho:mP ts) (hU:∀ n∈ns,n<M) (h2:(gT ts 0).ks.length=2) (w0:World) (hf0:bM w0 a c ts) (hf1:Us w0 b d ns):Calls Tryz.prog 27 #[.slice a ts.length c,.slice b ns.length d] w0 (fun ε w'=>∃ α κ,ε=.returned (.tuple #[.slice α (mlB (gT ts 0).m (ns.take (gT ts 0).ks.length)).length κ,vi 1,vn (gT ts 0).ks.length])∧jG w0 w'∧Fs w0 w' α κ (mlB (gT ts 0).m (ns.take (gT ts 0).ks.length))):=by
 refine Calls.of_ok (n:=103) (F:=(fun w=>bM w a c ts∧Us w b d ns∧True)) Tryz.func27 rfl rfl rfl (by simp) (hf0.pers0.and (hf1.pers0.and cO)) ?_
 refine jJ Tryz.f27 3 [0,1,4,5,6] [vz,vi 0,vi 0] ?_
 refine sS Tryz.f27 5 [0,1,4,5,6,7] [] (fun ρ=>[.slice a ts.length c,.pointer (fK a (0*36)),.agg (bW.row (gT ts 0)),pt (nb ρ 3),undef]) (fun ρ=>[(3,(nw ρ 3 (cL (iC 0 0 0 0 vz) 46))),(4,(bD 24 (nb ρ 3) (cL (bW.row (gT ts 0)) 46)))]) (cR [[]]<|cX (qF (fun _ _ _ hG=>bM.idx (k:=.i64) Tryz.underlying24 Tryz.sizeOf46 hG.fn.1 rfl (show (0:Int)=((0:Nat):Int) from rfl) (show 0<ts.length from h0)))<|cX (qF (fun _ _ _ hG=>bM.ldA (i:=0) Tryz.isAgg46 Tryz.sizeOf46 hG.fn.1 (show 0<ts.length from h0)))<|jE [[],[24]]) (fun ρ2=>?_)
 refine aB (jM Tryz.f27 2 [0,1,4,5,6,7,20] [] [pt (nb ρ2 3),vi (gT ts 0).kd] [[],[0]] (aI ?_))
 refine sS Tryz.f27 2 [0,1,4,5,6,7,20,21] [] (fun _=>[vF,vF]) (fun _=>[]) (jQ (fun ρ=>((gT ts 0).kd==1)) false (fun _=>(jK hk rfl))<|jE [[]]) (fun _=>?_)
 refine oN ?_
 refine sS Tryz.f27 2 [0,1,4,5,6,7,27] [] (fun _=>[vT,vT]) (fun _=>[]) (jQ (fun ρ=>((gT ts 0).kd==2)) true (fun _=>(jK hk rfl))<|jE [[]]) (fun _=>?_)
 refine oY ?_
 refine sDf Tryz.f27 [0,1,0,0,8,24,60,127,255,511,511,1023,4095] 13 [0,1,4,5,6,7,8] [] (fun ρ=>let qa:Value:=.slice (oa ρ 7) (mlB (gT ts 0).m (ns.take (gT ts 0).ks.length)).length (nb ρ 7);[jp (nb ρ2 3) 1,vi (gT ts 0).m,.slice b ns.length d,jp (nb ρ2 3) 35,.slice (gT ts 0).ka (gT ts 0).ks.length (gT ts 0).kc,vn (gT ts 0).ks.length,.slice b (ns.take (gT ts 0).ks.length).length d,.tuple #[qa,vi 0],.tuple #[qa,vi 0],qa,vi 0,qa,vi 0]) (fun _=>[]) (fun ρ=>[(6,fun w=>Us w b d (ns.take (gT ts 0).ks.length)),(7,fun w=>Fs w0 w (oa ρ 7) (nb ρ 7) (mlB (gT ts 0).m (ns.take (gT ts 0).ks.length)))]) (fun ρ=>(fun w=>bM w a c ts∧Us w b d ns∧Us w b d (ns.take (gT ts 0).ks.length)∧Fs w0 w (oa ρ 7) (nb ρ 7) (mlB (gT ts 0).m (ns.take (gT ts 0).ks.length))∧True)) (fun _=>True) (fun _ _ hF hf=>⟨⟨hF.1,hF.2.1,hf 6,hf 7,trivial⟩,trivial⟩) (cR [[],[0],[],[],[0],[]]<|cX (jF (fun _=>Instr.sliceAt 29 (.slice b ns.length d) none (some (vn (gT ts 0).ks.length)) none) (fun _=>(.slice b (ns.take (gT ts 0).ks.length).length d)) (fun _ _ _ hG=>pY (k:=(gT ts 0).ks.length) Tryz.underlying29 Tryz.sizeOf39 rfl (jI (rfl)) hks hG.fn.2.1.le (by rw [List.length_take];exact (Nat.min_eq_left hks).symm)) (fun _ _ w hG=>hG.facts0.mono (fun _ hF=>hF.2.1.take (gT ts 0).ks.length)))<|cX (qB (fun _ _ w hG=>rmulti_any (gT ts 0).m b d (ns.take (gT ts 0).ks.length) (fun n hn=>hU n (List.mem_of_mem_take hn)) (by rw [List.length_take];omega) (by rw [List.length_take];have:=hks;have h1:=(qO _ _ _ _ _).1 hfd;unfold o7 at h1;omega) w (show Us w b d (ns.take (gT ts 0).ks.length) from (hG.facts 6 rfl).now)))<|jE [[],[],[],[],[]]) (fun ρ6 _=>?_)
 refine sD Tryz.f27 [0,0,2,6,1,17,63] 7 [0,1,4,5,6,7] [] (fun _=>let qa:Value:=.slice (oa ρ6 7) (mlB (gT ts 0).m (ns.take (gT ts 0).ks.length)).length (nb ρ6 7);[qa,jp (nb ρ2 3) 35,.slice (gT ts 0).ka (gT ts 0).ks.length (gT ts 0).kc,vn (gT ts 0).ks.length,qa,vi 1,vn (gT ts 0).ks.length]) (fun _=>[]) (jE [[],[],[0],[],[],[],[]]) (fun _=>?_)
 refine aF (aP (aC (mD [(0,(.slice a ts.length c)),(1,(.slice b ns.length d)),(4,(.slice (oa ρ6 7) (mlB (gT ts 0).m (ns.take (gT ts 0).ks.length)).length (nb ρ6 7))),(5,(vi 1)),(6,(vn (gT ts 0).ks.length)),(7,(pt (nb ρ2 3)))] [(nb ρ2 3,(cL (bW.row (gT ts 0)) 46))] ?_)))
 exact mR (v:=(.tuple #[.slice (oa ρ6 7) (mlB (gT ts 0).m (ns.take (gT ts 0).ks.length)).length (nb ρ6 7),vi 1,vn (gT ts 0).ks.length])) (fun _ hS=>⟨oa ρ6 7,nb ρ6 7,congrArg Ending.returned (rfl),hS.bel,dU (rfl) hS.facts.now.2.2.2.1⟩)
theorem build3_any (a:Option Addr) (c:Nat) (ts:List bW) (b:Option Addr) (d:Nat) (ns:List Nat) (x:List UInt8) (n:Nat) (m:Nat) (hk:(gT ts 0).kd=3) (h0:0<ts.length) (_hfd:(gT ts 0).fd=true) (_hks:(gT ts 0).ks.length≤ns.length) (ho:mP ts) (_hU:∀ n∈ns,n<M) (hx:x.length≤1000000) (hn9:n≤1000000) (_hm9:m≤1000000) (ih:BlC ts.tail ns x n m) (w0:World) (hf0:bM w0 a c ts) (hf1:Us w0 b d ns):Calls Tryz.prog 27 #[.slice a ts.length c,.slice b ns.length d] w0 (fun ε w'=>∃ α κ,ε=.returned (.tuple #[.slice α (afB (gT ts 0).nu x).length κ,vn (n+1),vn m])∧jG w0 w'∧Fs w0 w' α κ (afB (gT ts 0).nu x)):=by
 refine Calls.of_ok (n:=103) (F:=(fun w=>bM w a c ts∧Us w b d ns∧True)) Tryz.func27 rfl rfl rfl (by simp) (hf0.pers0.and (hf1.pers0.and cO)) ?_
 refine jJ Tryz.f27 3 [0,1,4,5,6] [vz,vi 0,vi 0] ?_
 refine sS Tryz.f27 5 [0,1,4,5,6,7] [] (fun ρ=>[.slice a ts.length c,.pointer (fK a (0*36)),.agg (bW.row (gT ts 0)),pt (nb ρ 3),undef]) (fun ρ=>[(3,(nw ρ 3 (cL (iC 0 0 0 0 vz) 46))),(4,(bD 24 (nb ρ 3) (cL (bW.row (gT ts 0)) 46)))]) (cR [[]]<|cX (qF (fun _ _ _ hG=>bM.idx (k:=.i64) Tryz.underlying24 Tryz.sizeOf46 hG.fn.1 rfl (show (0:Int)=((0:Nat):Int) from rfl) (show 0<ts.length from h0)))<|cX (qF (fun _ _ _ hG=>bM.ldA (i:=0) Tryz.isAgg46 Tryz.sizeOf46 hG.fn.1 (show 0<ts.length from h0)))<|jE [[],[24]]) (fun ρ2=>?_)
 refine aB (jM Tryz.f27 2 [0,1,4,5,6,7,20] [] [pt (nb ρ2 3),vi (gT ts 0).kd] [[],[0]] (aI ?_))
 refine sS Tryz.f27 2 [0,1,4,5,6,7,20,21] [] (fun _=>[vF,vF]) (fun _=>[]) (jQ (fun ρ=>((gT ts 0).kd==1)) false (fun _=>(jK hk rfl))<|jE [[]]) (fun _=>?_)
 refine oN ?_
 refine sS Tryz.f27 2 [0,1,4,5,6,7,27] [] (fun _=>[vF,vF]) (fun _=>[]) (jQ (fun ρ=>((gT ts 0).kd==2)) false (fun _=>(jK hk rfl))<|jE [[]]) (fun _=>?_)
 refine oN ?_
 refine aG (aJ (aA ?_))
 refine iZ Tryz.f27 11 [0,1,4,5,6,7,10,11,12] [] (fun ρ=>let qa:Value:=.slice (oa ρ 3) x.length (nb ρ 3);[.slice a ts.length c,.slice (jA a c 1 36) ts.tail.length (c-1),.slice b ns.length d,.tuple #[qa,vn n,vn m],.tuple #[qa,vn n,vn m],qa,vn n,vn m,qa,vn n,vn m]) (fun _=>[]) (fun ρ=>[(1,fun w=>bM w (jA a c 1 36) (c-1) ts.tail),(3,fun w=>Fs w0 w (oa ρ 3) (nb ρ 3) x)]) (fun ρ=>(fun w=>bM w a c ts∧Us w b d ns∧bM w (jA a c 1 36) (c-1) ts.tail∧Fs w0 w (oa ρ 3) (nb ρ 3) x∧True)) (fun _=>True) (fun _ _ hF hf=>⟨⟨hF.1,hF.2.1,hf 1,hf 3,trivial⟩,trivial⟩) (cR [[]]<|cX (jF (fun _=>Instr.sliceAt 24 (.slice a ts.length c) (some (vi 1)) none none) (fun _=>(.slice (jA a c 1 36) ts.tail.length (c-1))) (fun _ _ _ hG=>fP (k:=1) Tryz.underlying24 Tryz.sizeOf46 rfl (jI (rfl)) h0 hG.fn.1.le (by rw [List.length_tail])) (fun _ _ w hG=>hG.facts0.mono (fun _ hF=>hF.1.tail h0)))<|cR [[]]<|cX (qB (fun _ _ w hG=>ih (jA a c 1 36) b (c-1) d w (show bM w (jA a c 1 36) (c-1) ts.tail from (hG.facts 1 rfl).now) hG.fn.2.1))<|jE [[],[],[],[],[],[],[]]) (fun ρ6 _=>?_)
 refine aB (jM Tryz.f27 2 [0,1,4,5,6,7,10,11,12,53] [] [pt (nb ρ2 3),vi (gT ts 0).kd] [[],[0]] ?_)
 refine lK [(0,(.slice a ts.length c)),(1,(.slice b ns.length d)),(4,vz),(5,(vi 0)),(6,(vi 0)),(7,(pt (nb ρ2 3))),(10,(.slice (oa ρ6 3) x.length (nb ρ6 3))),(11,(vn n)),(12,(vn m)),(53,(vi (gT ts 0).kd))] [(nb ρ2 3,(cL (bW.row (gT ts 0)) 46))] ?_
 refine aI ?_
 refine sS Tryz.f27 2 [0,1,4,5,6,7,10,11,12,53,54] [] (fun _=>[vT,vT]) (fun _=>[]) (jQ (fun ρ=>((gT ts 0).kd==3)) true (fun _=>(jK hk rfl))<|jE [[]]) (fun _=>?_)
 refine oY ?_
 refine iZ Tryz.f27 10 [0,1,4,5,6,10,11,12] [0] (fun ρ=>let qa:Value:=.slice (oa ρ 3) (afB (gT ts 0).nu x).length (nb ρ 3);[jp (nb ρ2 3) 2,vu ((gT ts 0).nu),.slice (oa ρ6 3) x.length (nb ρ6 3),qa,vn n,vn (n+1),vn m,qa,vn (n+1),vn m]) (fun _=>[]) (fun ρ=>[(3,fun w=>Fs w0 w (oa ρ 3) (nb ρ 3) (afB (gT ts 0).nu x))]) (fun ρ=>(fun w=>bM w a c ts∧Us w b d ns∧bM w (jA a c 1 36) (c-1) ts.tail∧Fs w0 w (oa ρ6 3) (nb ρ6 3) x∧Fs w0 w (oa ρ 3) (nb ρ 3) (afB (gT ts 0).nu x)∧True)) (fun _=>True) (fun _ _ hF hf=>⟨⟨hF.1,hF.2.1,hF.2.2.1,hF.2.2.2.1,hf 3,trivial⟩,trivial⟩) (cR [[],[0],[]]<|cX (qB (fun _ _ w hG=>rafter_any (gT ts 0).nu (oa ρ6 3) (nb ρ6 3) x (ho.gT 0).nu hx w hG.fn.2.2.2.1.1))<|cR [[]]<|jW (fun ρ=>(((n:Nat):Int)+1)) (fun _=>(n+1)) (fun _=>(aW n 1 (by omega)))<|jE [[],[],[],[]]) (fun ρ9 _=>?_)
 refine aF (aP (aC (mD [(0,(.slice a ts.length c)),(1,(.slice b ns.length d)),(4,(.slice (oa ρ9 3) (afB (gT ts 0).nu x).length (nb ρ9 3))),(5,(vn (n+1))),(6,(vn m)),(10,(.slice (oa ρ6 3) x.length (nb ρ6 3))),(11,(vn n)),(12,(vn m))] [] ?_)))
 exact mR (v:=(.tuple #[.slice (oa ρ9 3) (afB (gT ts 0).nu x).length (nb ρ9 3),vn (n+1),vn m])) (fun _ hS=>⟨oa ρ9 3,nb ρ9 3,congrArg Ending.returned (rfl),hS.bel,dU (rfl) hS.facts.now.2.2.2.2.1⟩)
theorem build4_any (a:Option Addr) (c:Nat) (ts:List bW) (b:Option Addr) (d:Nat) (ns:List Nat) (x:List UInt8) (n:Nat) (m:Nat) (hk:(gT ts 0).kd=4) (h0:0<ts.length) (_hfd:(gT ts 0).fd=true) (_hks:(gT ts 0).ks.length≤ns.length) (ho:mP ts) (_hU:∀ n∈ns,n<M) (hx:x.length≤1000000) (hn9:n≤1000000) (_hm9:m≤1000000) (ih:BlC ts.tail ns x n m) (w0:World) (hf0:bM w0 a c ts) (hf1:Us w0 b d ns):Calls Tryz.prog 27 #[.slice a ts.length c,.slice b ns.length d] w0 (fun ε w'=>∃ α κ,ε=.returned (.tuple #[.slice α (olB (gT ts 0).nu x).length κ,vn (n+1),vn m])∧jG w0 w'∧Fs w0 w' α κ (olB (gT ts 0).nu x)):=by
 refine Calls.of_ok (n:=103) (F:=(fun w=>bM w a c ts∧Us w b d ns∧True)) Tryz.func27 rfl rfl rfl (by simp) (hf0.pers0.and (hf1.pers0.and cO)) ?_
 refine jJ Tryz.f27 3 [0,1,4,5,6] [vz,vi 0,vi 0] ?_
 refine sS Tryz.f27 5 [0,1,4,5,6,7] [] (fun ρ=>[.slice a ts.length c,.pointer (fK a (0*36)),.agg (bW.row (gT ts 0)),pt (nb ρ 3),undef]) (fun ρ=>[(3,(nw ρ 3 (cL (iC 0 0 0 0 vz) 46))),(4,(bD 24 (nb ρ 3) (cL (bW.row (gT ts 0)) 46)))]) (cR [[]]<|cX (qF (fun _ _ _ hG=>bM.idx (k:=.i64) Tryz.underlying24 Tryz.sizeOf46 hG.fn.1 rfl (show (0:Int)=((0:Nat):Int) from rfl) (show 0<ts.length from h0)))<|cX (qF (fun _ _ _ hG=>bM.ldA (i:=0) Tryz.isAgg46 Tryz.sizeOf46 hG.fn.1 (show 0<ts.length from h0)))<|jE [[],[24]]) (fun ρ2=>?_)
 refine aB (jM Tryz.f27 2 [0,1,4,5,6,7,20] [] [pt (nb ρ2 3),vi (gT ts 0).kd] [[],[0]] (aI ?_))
 refine sS Tryz.f27 2 [0,1,4,5,6,7,20,21] [] (fun _=>[vF,vF]) (fun _=>[]) (jQ (fun ρ=>((gT ts 0).kd==1)) false (fun _=>(jK hk rfl))<|jE [[]]) (fun _=>?_)
 refine oN ?_
 refine sS Tryz.f27 2 [0,1,4,5,6,7,27] [] (fun _=>[vF,vF]) (fun _=>[]) (jQ (fun ρ=>((gT ts 0).kd==2)) false (fun _=>(jK hk rfl))<|jE [[]]) (fun _=>?_)
 refine oN ?_
 refine aG (aJ (aA ?_))
 refine iZ Tryz.f27 11 [0,1,4,5,6,7,10,11,12] [] (fun ρ=>let qa:Value:=.slice (oa ρ 3) x.length (nb ρ 3);[.slice a ts.length c,.slice (jA a c 1 36) ts.tail.length (c-1),.slice b ns.length d,.tuple #[qa,vn n,vn m],.tuple #[qa,vn n,vn m],qa,vn n,vn m,qa,vn n,vn m]) (fun _=>[]) (fun ρ=>[(1,fun w=>bM w (jA a c 1 36) (c-1) ts.tail),(3,fun w=>Fs w0 w (oa ρ 3) (nb ρ 3) x)]) (fun ρ=>(fun w=>bM w a c ts∧Us w b d ns∧bM w (jA a c 1 36) (c-1) ts.tail∧Fs w0 w (oa ρ 3) (nb ρ 3) x∧True)) (fun _=>True) (fun _ _ hF hf=>⟨⟨hF.1,hF.2.1,hf 1,hf 3,trivial⟩,trivial⟩) (cR [[]]<|cX (jF (fun _=>Instr.sliceAt 24 (.slice a ts.length c) (some (vi 1)) none none) (fun _=>(.slice (jA a c 1 36) ts.tail.length (c-1))) (fun _ _ _ hG=>fP (k:=1) Tryz.underlying24 Tryz.sizeOf46 rfl (jI (rfl)) h0 hG.fn.1.le (by rw [List.length_tail])) (fun _ _ w hG=>hG.facts0.mono (fun _ hF=>hF.1.tail h0)))<|cR [[]]<|cX (qB (fun _ _ w hG=>ih (jA a c 1 36) b (c-1) d w (show bM w (jA a c 1 36) (c-1) ts.tail from (hG.facts 1 rfl).now) hG.fn.2.1))<|jE [[],[],[],[],[],[],[]]) (fun ρ6 _=>?_)
 refine aB (jM Tryz.f27 2 [0,1,4,5,6,7,10,11,12,53] [] [pt (nb ρ2 3),vi (gT ts 0).kd] [[],[0]] ?_)
 refine lK [(0,(.slice a ts.length c)),(1,(.slice b ns.length d)),(4,vz),(5,(vi 0)),(6,(vi 0)),(7,(pt (nb ρ2 3))),(10,(.slice (oa ρ6 3) x.length (nb ρ6 3))),(11,(vn n)),(12,(vn m)),(53,(vi (gT ts 0).kd))] [(nb ρ2 3,(cL (bW.row (gT ts 0)) 46))] ?_
 refine aI ?_
 refine sS Tryz.f27 2 [0,1,4,5,6,7,10,11,12,53,54] [] (fun _=>[vF,vF]) (fun _=>[]) (jQ (fun ρ=>((gT ts 0).kd==3)) false (fun _=>(jK hk rfl))<|jE [[]]) (fun _=>?_)
 refine oN ?_
 refine sS Tryz.f27 2 [0,1,4,5,6,7,10,11,12,53,63] [] (fun _=>[vT,vT]) (fun _=>[]) (jQ (fun ρ=>((gT ts 0).kd==4)) true (fun _=>(jK hk rfl))<|jE [[]]) (fun _=>?_)
 refine oY ?_
 refine iZ Tryz.f27 10 [0,1,4,5,6,10,11,12] [0] (fun ρ=>let qa:Value:=.slice (oa ρ 3) (olB (gT ts 0).nu x).length (nb ρ 3);[jp (nb ρ2 3) 2,vu ((gT ts 0).nu),.slice (oa ρ6 3) x.length (nb ρ6 3),qa,vn n,vn (n+1),vn m,qa,vn (n+1),vn m]) (fun _=>[]) (fun ρ=>[(3,fun w=>Fs w0 w (oa ρ 3) (nb ρ 3) (olB (gT ts 0).nu x))]) (fun ρ=>(fun w=>bM w a c ts∧Us w b d ns∧bM w (jA a c 1 36) (c-1) ts.tail∧Fs w0 w (oa ρ6 3) (nb ρ6 3) x∧Fs w0 w (oa ρ 3) (nb ρ 3) (olB (gT ts 0).nu x)∧True)) (fun _=>True) (fun _ _ hF hf=>⟨⟨hF.1,hF.2.1,hF.2.2.1,hF.2.2.2.1,hf 3,trivial⟩,trivial⟩) (cR [[],[0],[]]<|cX (qB (fun _ _ w hG=>rolder_any (gT ts 0).nu (oa ρ6 3) (nb ρ6 3) x (ho.gT 0).nu hx w hG.fn.2.2.2.1.1))<|cR [[]]<|jW (fun ρ=>(((n:Nat):Int)+1)) (fun _=>(n+1)) (fun _=>(aW n 1 (by omega)))<|jE [[],[],[],[]]) (fun ρ10 _=>?_)
 refine aF (aP (aC (mD [(0,(.slice a ts.length c)),(1,(.slice b ns.length d)),(4,(.slice (oa ρ10 3) (olB (gT ts 0).nu x).length (nb ρ10 3))),(5,(vn (n+1))),(6,(vn m)),(10,(.slice (oa ρ6 3) x.length (nb ρ6 3))),(11,(vn n)),(12,(vn m))] [] ?_)))
 exact mR (v:=(.tuple #[.slice (oa ρ10 3) (olB (gT ts 0).nu x).length (nb ρ10 3),vn (n+1),vn m])) (fun _ hS=>⟨oa ρ10 3,nb ρ10 3,congrArg Ending.returned (rfl),hS.bel,dU (rfl) hS.facts.now.2.2.2.2.1⟩)
theorem build5_any (a:Option Addr) (c:Nat) (ts:List bW) (b:Option Addr) (d:Nat) (ns:List Nat) (x:List UInt8) (n:Nat) (m:Nat) (hk:(gT ts 0).kd=5) (h0:0<ts.length) (_hfd:(gT ts 0).fd=true) (_hks:(gT ts 0).ks.length≤ns.length) (ho:mP ts) (_hU:∀ n∈ns,n<M) (hx:x.length≤1000000) (hn9:n≤1000000) (_hm9:m≤1000000) (ih:BlC ts.tail ns x n m) (w0:World) (hf0:bM w0 a c ts) (hf1:Us w0 b d ns):Calls Tryz.prog 27 #[.slice a ts.length c,.slice b ns.length d] w0 (fun ε w'=>∃ α κ,ε=.returned (.tuple #[.slice α (hsB (gT ts 0).h x).length κ,vn (n+1),vn m])∧jG w0 w'∧Fs w0 w' α κ (hsB (gT ts 0).h x)):=by
 refine Calls.of_ok (n:=103) (F:=(fun w=>bM w a c ts∧Us w b d ns∧True)) Tryz.func27 rfl rfl rfl (by simp) (hf0.pers0.and (hf1.pers0.and cO)) ?_
 refine jJ Tryz.f27 3 [0,1,4,5,6] [vz,vi 0,vi 0] ?_
 refine sS Tryz.f27 5 [0,1,4,5,6,7] [] (fun ρ=>[.slice a ts.length c,.pointer (fK a (0*36)),.agg (bW.row (gT ts 0)),pt (nb ρ 3),undef]) (fun ρ=>[(3,(nw ρ 3 (cL (iC 0 0 0 0 vz) 46))),(4,(bD 24 (nb ρ 3) (cL (bW.row (gT ts 0)) 46)))]) (cR [[]]<|cX (qF (fun _ _ _ hG=>bM.idx (k:=.i64) Tryz.underlying24 Tryz.sizeOf46 hG.fn.1 rfl (show (0:Int)=((0:Nat):Int) from rfl) (show 0<ts.length from h0)))<|cX (qF (fun _ _ _ hG=>bM.ldA (i:=0) Tryz.isAgg46 Tryz.sizeOf46 hG.fn.1 (show 0<ts.length from h0)))<|jE [[],[24]]) (fun ρ2=>?_)
 refine aB (jM Tryz.f27 2 [0,1,4,5,6,7,20] [] [pt (nb ρ2 3),vi (gT ts 0).kd] [[],[0]] (aI ?_))
 refine sS Tryz.f27 2 [0,1,4,5,6,7,20,21] [] (fun _=>[vF,vF]) (fun _=>[]) (jQ (fun ρ=>((gT ts 0).kd==1)) false (fun _=>(jK hk rfl))<|jE [[]]) (fun _=>?_)
 refine oN ?_
 refine sS Tryz.f27 2 [0,1,4,5,6,7,27] [] (fun _=>[vF,vF]) (fun _=>[]) (jQ (fun ρ=>((gT ts 0).kd==2)) false (fun _=>(jK hk rfl))<|jE [[]]) (fun _=>?_)
 refine oN ?_
 refine aG (aJ (aA ?_))
 refine iZ Tryz.f27 11 [0,1,4,5,6,7,10,11,12] [] (fun ρ=>let qa:Value:=.slice (oa ρ 3) x.length (nb ρ 3);[.slice a ts.length c,.slice (jA a c 1 36) ts.tail.length (c-1),.slice b ns.length d,.tuple #[qa,vn n,vn m],.tuple #[qa,vn n,vn m],qa,vn n,vn m,qa,vn n,vn m]) (fun _=>[]) (fun ρ=>[(1,fun w=>bM w (jA a c 1 36) (c-1) ts.tail),(3,fun w=>Fs w0 w (oa ρ 3) (nb ρ 3) x)]) (fun ρ=>(fun w=>bM w a c ts∧Us w b d ns∧bM w (jA a c 1 36) (c-1) ts.tail∧Fs w0 w (oa ρ 3) (nb ρ 3) x∧True)) (fun _=>True) (fun _ _ hF hf=>⟨⟨hF.1,hF.2.1,hf 1,hf 3,trivial⟩,trivial⟩) (cR [[]]<|cX (jF (fun _=>Instr.sliceAt 24 (.slice a ts.length c) (some (vi 1)) none none) (fun _=>(.slice (jA a c 1 36) ts.tail.length (c-1))) (fun _ _ _ hG=>fP (k:=1) Tryz.underlying24 Tryz.sizeOf46 rfl (jI (rfl)) h0 hG.fn.1.le (by rw [List.length_tail])) (fun _ _ w hG=>hG.facts0.mono (fun _ hF=>hF.1.tail h0)))<|cR [[]]<|cX (qB (fun _ _ w hG=>ih (jA a c 1 36) b (c-1) d w (show bM w (jA a c 1 36) (c-1) ts.tail from (hG.facts 1 rfl).now) hG.fn.2.1))<|jE [[],[],[],[],[],[],[]]) (fun ρ6 _=>?_)
 refine aB (jM Tryz.f27 2 [0,1,4,5,6,7,10,11,12,53] [] [pt (nb ρ2 3),vi (gT ts 0).kd] [[],[0]] ?_)
 refine lK [(0,(.slice a ts.length c)),(1,(.slice b ns.length d)),(4,vz),(5,(vi 0)),(6,(vi 0)),(7,(pt (nb ρ2 3))),(10,(.slice (oa ρ6 3) x.length (nb ρ6 3))),(11,(vn n)),(12,(vn m)),(53,(vi (gT ts 0).kd))] [(nb ρ2 3,(cL (bW.row (gT ts 0)) 46))] ?_
 refine aI ?_
 refine sS Tryz.f27 2 [0,1,4,5,6,7,10,11,12,53,54] [] (fun _=>[vF,vF]) (fun _=>[]) (jQ (fun ρ=>((gT ts 0).kd==3)) false (fun _=>(jK hk rfl))<|jE [[]]) (fun _=>?_)
 refine oN ?_
 refine sS Tryz.f27 2 [0,1,4,5,6,7,10,11,12,53,63] [] (fun _=>[vF,vF]) (fun _=>[]) (jQ (fun ρ=>((gT ts 0).kd==4)) false (fun _=>(jK hk rfl))<|jE [[]]) (fun _=>?_)
 refine oN ?_
 refine sS Tryz.f27 2 [0,1,4,5,6,7,10,11,12,72] [] (fun _=>[vT,vT]) (fun _=>[]) (jQ (fun ρ=>((gT ts 0).kd==5)) true (fun _=>(jK hk rfl))<|jE [[]]) (fun _=>?_)
 refine oY ?_
 refine iZ Tryz.f27 10 [0,1,4,5,6,10,11,12] [0] (fun ρ=>let qa:Value:=.slice (oa ρ 3) (hsB (gT ts 0).h x).length (nb ρ 3);[jp (nb ρ2 3) 3,.agg (hB (gT ts 0).h),.slice (oa ρ6 3) x.length (nb ρ6 3),qa,vn n,vn (n+1),vn m,qa,vn (n+1),vn m]) (fun _=>[]) (fun ρ=>[(3,fun w=>Fs w0 w (oa ρ 3) (nb ρ 3) (hsB (gT ts 0).h x))]) (fun ρ=>(fun w=>bM w a c ts∧Us w b d ns∧bM w (jA a c 1 36) (c-1) ts.tail∧Fs w0 w (oa ρ6 3) (nb ρ6 3) x∧Fs w0 w (oa ρ 3) (nb ρ 3) (hsB (gT ts 0).h x)∧True)) (fun _=>True) (fun _ _ hF hf=>⟨⟨hF.1,hF.2.1,hF.2.2.1,hF.2.2.2.1,hf 3,trivial⟩,trivial⟩) (cR [[],[0],[]]<|cX (qB (fun _ _ w hG=>rhashed_any (gT ts 0).h (oa ρ6 3) (nb ρ6 3) x (ho.gT 0).h hx w hG.fn.2.2.2.1.1))<|cR [[]]<|jW (fun ρ=>(((n:Nat):Int)+1)) (fun _=>(n+1)) (fun _=>(aW n 1 (by omega)))<|jE [[],[],[],[]]) (fun ρ11 _=>?_)
 refine aF (aP (aC (mD [(0,(.slice a ts.length c)),(1,(.slice b ns.length d)),(4,(.slice (oa ρ11 3) (hsB (gT ts 0).h x).length (nb ρ11 3))),(5,(vn (n+1))),(6,(vn m)),(10,(.slice (oa ρ6 3) x.length (nb ρ6 3))),(11,(vn n)),(12,(vn m))] [] ?_)))
 exact mR (v:=(.tuple #[.slice (oa ρ11 3) (hsB (gT ts 0).h x).length (nb ρ11 3),vn (n+1),vn m])) (fun _ hS=>⟨oa ρ11 3,nb ρ11 3,congrArg Ending.returned (rfl),hS.bel,dU (rfl) hS.facts.now.2.2.2.2.1⟩)
theorem build6_any (a:Option Addr) (c:Nat) (ts:List bW) (b:Option Addr) (d:Nat) (ns:List Nat) (x:List UInt8) (n:Nat) (m:Nat) (y:List UInt8) (i:Nat) (j:Nat) (hk:(gT ts 0).kd=6) (h0:0<ts.length) (_hfd:(gT ts 0).fd=true) (_hks:(gT ts 0).ks.length≤ns.length) (_ho:mP ts) (_hU:∀ n∈ns,n<M) (hx:x.length≤1000000) (hn9:n≤1000000) (hm9:m≤1000000) (ih:BlC ts.tail ns x n m) (hy:y.length≤1000000) (hi9:i≤1000000) (hj9:j≤1000000) (hn:1+n≤ts.length) (hm:m≤ns.length) (ih2:BlC (ts.drop (1+n)) (ns.drop m) y i j) (w0:World) (hf0:bM w0 a c ts) (hf1:Us w0 b d ns):Calls Tryz.prog 27 #[.slice a ts.length c,.slice b ns.length d] w0 (fun ε w'=>∃ α κ,ε=.returned (.tuple #[.slice α (eiB x y).length κ,vn (n+i+1),vn (m+j)])∧jG w0 w'∧Fs w0 w' α κ (eiB x y)):=by
 refine Calls.of_ok (n:=103) (F:=(fun w=>bM w a c ts∧Us w b d ns∧True)) Tryz.func27 rfl rfl rfl (by simp) (hf0.pers0.and (hf1.pers0.and cO)) ?_
 refine jJ Tryz.f27 3 [0,1,4,5,6] [vz,vi 0,vi 0] ?_
 refine sS Tryz.f27 5 [0,1,4,5,6,7] [] (fun ρ=>[.slice a ts.length c,.pointer (fK a (0*36)),.agg (bW.row (gT ts 0)),pt (nb ρ 3),undef]) (fun ρ=>[(3,(nw ρ 3 (cL (iC 0 0 0 0 vz) 46))),(4,(bD 24 (nb ρ 3) (cL (bW.row (gT ts 0)) 46)))]) (cR [[]]<|cX (qF (fun _ _ _ hG=>bM.idx (k:=.i64) Tryz.underlying24 Tryz.sizeOf46 hG.fn.1 rfl (show (0:Int)=((0:Nat):Int) from rfl) (show 0<ts.length from h0)))<|cX (qF (fun _ _ _ hG=>bM.ldA (i:=0) Tryz.isAgg46 Tryz.sizeOf46 hG.fn.1 (show 0<ts.length from h0)))<|jE [[],[24]]) (fun ρ2=>?_)
 refine aB (jM Tryz.f27 2 [0,1,4,5,6,7,20] [] [pt (nb ρ2 3),vi (gT ts 0).kd] [[],[0]] (aI ?_))
 refine sS Tryz.f27 2 [0,1,4,5,6,7,20,21] [] (fun _=>[vF,vF]) (fun _=>[]) (jQ (fun ρ=>((gT ts 0).kd==1)) false (fun _=>(jK hk rfl))<|jE [[]]) (fun _=>?_)
 refine oN ?_
 refine sS Tryz.f27 2 [0,1,4,5,6,7,27] [] (fun _=>[vF,vF]) (fun _=>[]) (jQ (fun ρ=>((gT ts 0).kd==2)) false (fun _=>(jK hk rfl))<|jE [[]]) (fun _=>?_)
 refine oN ?_
 refine aG (aJ (aA ?_))
 refine iZ Tryz.f27 11 [0,1,4,5,6,7,10,11,12] [] (fun ρ=>let qa:Value:=.slice (oa ρ 3) x.length (nb ρ 3);[.slice a ts.length c,.slice (jA a c 1 36) ts.tail.length (c-1),.slice b ns.length d,.tuple #[qa,vn n,vn m],.tuple #[qa,vn n,vn m],qa,vn n,vn m,qa,vn n,vn m]) (fun _=>[]) (fun ρ=>[(1,fun w=>bM w (jA a c 1 36) (c-1) ts.tail),(3,fun w=>Fs w0 w (oa ρ 3) (nb ρ 3) x)]) (fun ρ=>(fun w=>bM w a c ts∧Us w b d ns∧bM w (jA a c 1 36) (c-1) ts.tail∧Fs w0 w (oa ρ 3) (nb ρ 3) x∧True)) (fun _=>True) (fun _ _ hF hf=>⟨⟨hF.1,hF.2.1,hf 1,hf 3,trivial⟩,trivial⟩) (cR [[]]<|cX (jF (fun _=>Instr.sliceAt 24 (.slice a ts.length c) (some (vi 1)) none none) (fun _=>(.slice (jA a c 1 36) ts.tail.length (c-1))) (fun _ _ _ hG=>fP (k:=1) Tryz.underlying24 Tryz.sizeOf46 rfl (jI (rfl)) h0 hG.fn.1.le (by rw [List.length_tail])) (fun _ _ w hG=>hG.facts0.mono (fun _ hF=>hF.1.tail h0)))<|cR [[]]<|cX (qB (fun _ _ w hG=>ih (jA a c 1 36) b (c-1) d w (show bM w (jA a c 1 36) (c-1) ts.tail from (hG.facts 1 rfl).now) hG.fn.2.1))<|jE [[],[],[],[],[],[],[]]) (fun ρ6 _=>?_)
 refine aB (jM Tryz.f27 2 [0,1,4,5,6,7,10,11,12,53] [] [pt (nb ρ2 3),vi (gT ts 0).kd] [[],[0]] ?_)
 refine lK [(0,(.slice a ts.length c)),(1,(.slice b ns.length d)),(4,vz),(5,(vi 0)),(6,(vi 0)),(7,(pt (nb ρ2 3))),(10,(.slice (oa ρ6 3) x.length (nb ρ6 3))),(11,(vn n)),(12,(vn m)),(53,(vi (gT ts 0).kd))] [(nb ρ2 3,(cL (bW.row (gT ts 0)) 46))] ?_
 refine aI ?_
 refine sS Tryz.f27 2 [0,1,4,5,6,7,10,11,12,53,54] [] (fun _=>[vF,vF]) (fun _=>[]) (jQ (fun ρ=>((gT ts 0).kd==3)) false (fun _=>(jK hk rfl))<|jE [[]]) (fun _=>?_)
 refine oN ?_
 refine sS Tryz.f27 2 [0,1,4,5,6,7,10,11,12,53,63] [] (fun _=>[vF,vF]) (fun _=>[]) (jQ (fun ρ=>((gT ts 0).kd==4)) false (fun _=>(jK hk rfl))<|jE [[]]) (fun _=>?_)
 refine oN ?_
 refine sS Tryz.f27 2 [0,1,4,5,6,7,10,11,12,72] [] (fun _=>[vF,vF]) (fun _=>[]) (jQ (fun ρ=>((gT ts 0).kd==5)) false (fun _=>(jK hk rfl))<|jE [[]]) (fun _=>?_)
 refine oN ?_
 refine aG (aJ (aA ?_))
 refine sDf Tryz.f27 [0,0,2,7,0,0,48,127,255,511,511,511,1023,6143,16383] 15 [4,5,6,10,11,12,13,14,15] [0] (fun ρ=>let qa:Value:=.slice (oa ρ 7) y.length (nb ρ 7);[.slice a ts.length c,vn n,vn (1+n),.slice (jA a c (1+n) 36) (ts.drop (1+n)).length (c-(1+n)),.slice b ns.length d,vn m,.slice (jA b d m 4) (ns.drop m).length (d-m),.tuple #[qa,vn i,vn j],.tuple #[qa,vn i,vn j],qa,vn i,vn j,qa,vn i,vn j]) (fun _=>[]) (fun ρ=>[(3,fun w=>bM w (jA a c (1+n) 36) (c-(1+n)) (ts.drop (1+n))),(6,fun w=>Us w (jA b d m 4) (d-m) (ns.drop m)),(7,fun w=>Fs w0 w (oa ρ 7) (nb ρ 7) y)]) (fun ρ=>(fun w=>bM w a c ts∧Us w b d ns∧bM w (jA a c 1 36) (c-1) ts.tail∧Fs w0 w (oa ρ6 3) (nb ρ6 3) x∧bM w (jA a c (1+n) 36) (c-(1+n)) (ts.drop (1+n))∧Us w (jA b d m 4) (d-m) (ns.drop m)∧Fs w0 w (oa ρ 7) (nb ρ 7) y∧True)) (fun _=>True) (fun _ _ hF hf=>⟨⟨hF.1,hF.2.1,hF.2.2.1,hF.2.2.2.1,hf 3,hf 6,hf 7,trivial⟩,trivial⟩) (cR [[],[]]<|jW (fun ρ=>(1+((n:Nat):Int))) (fun _=>(1+n)) (fun _=>(aW 1 n (by omega)))<|cX (jF (fun _=>Instr.sliceAt 24 (.slice a ts.length c) (some (vn (1+n))) none none) (fun _=>(.slice (jA a c (1+n) 36) (ts.drop (1+n)).length (c-(1+n)))) (fun _ _ _ hG=>fP (k:=1+n) Tryz.underlying24 Tryz.sizeOf46 rfl (jI (rfl)) hn hG.fn.1.le (by rw [List.length_drop])) (fun _ _ w hG=>hG.facts0.mono (fun _ hF=>hF.1.drop hn)))<|cR [[],[]]<|cX (jF (fun _=>Instr.sliceAt 29 (.slice b ns.length d) (some (vn m)) none none) (fun _=>(.slice (jA b d m 4) (ns.drop m).length (d-m))) (fun _ _ _ hG=>fP (k:=m) Tryz.underlying29 Tryz.sizeOf39 rfl (jI (rfl)) hm hG.fn.2.1.le (by rw [List.length_drop])) (fun _ _ w hG=>hG.facts0.mono (fun _ hF=>hF.2.1.drop hm)))<|cX (qB (fun _ _ w hG=>ih2 (jA a c (1+n) 36) (jA b d m 4) (c-(1+n)) (d-m) w (show bM w (jA a c (1+n) 36) (c-(1+n)) (ts.drop (1+n)) from (hG.facts 3 rfl).now) (show Us w (jA b d m 4) (d-m) (ns.drop m) from (hG.facts 6 rfl).now)))<|jE [[],[],[],[],[],[],[]]) (fun ρ11 _=>?_)
 refine iZ Tryz.f27 13 [4,5,6] [] (fun ρ=>let qa:Value:=.slice (oa ρ 2) (eiB x y).length (nb ρ 2);[.slice (oa ρ6 3) x.length (nb ρ6 3),.slice (oa ρ11 7) y.length (nb ρ11 7),qa,vn n,vn i,vn (n+i),vn ((n+i)+1),vn m,vn j,vn (m+j),qa,vn ((n+i)+1),vn (m+j)]) (fun _=>[]) (fun ρ=>[(2,fun w=>Fs w0 w (oa ρ 2) (nb ρ 2) (eiB x y))]) (fun ρ=>(fun w=>bM w a c ts∧Us w b d ns∧bM w (jA a c 1 36) (c-1) ts.tail∧Fs w0 w (oa ρ6 3) (nb ρ6 3) x∧bM w (jA a c (1+n) 36) (c-(1+n)) (ts.drop (1+n))∧Us w (jA b d m 4) (d-m) (ns.drop m)∧Fs w0 w (oa ρ11 7) (nb ρ11 7) y∧Fs w0 w (oa ρ 2) (nb ρ 2) (eiB x y)∧True)) (fun _=>True) (fun _ _ hF hf=>⟨⟨hF.1,hF.2.1,hF.2.2.1,hF.2.2.2.1,hF.2.2.2.2.1,hF.2.2.2.2.2.1,hF.2.2.2.2.2.2.1,hf 2,trivial⟩,trivial⟩) (cR [[],[]]<|cX (qB (fun _ _ w hG=>reither_any (oa ρ6 3) (nb ρ6 3) x (oa ρ11 7) (nb ρ11 7) y hx hy w hG.fn.2.2.2.1.1 hG.fn.2.2.2.2.2.2.1.1))<|cR [[],[]]<|jW (fun ρ=>(((n:Nat):Int)+((i:Nat):Int))) (fun _=>(n+i)) (fun _=>(aW n i (by omega)))<|jW (fun ρ=>(((n+i:Nat):Int)+1)) (fun _=>((n+i)+1)) (fun _=>(aW (n+i) 1 (by omega)))<|cR [[],[]]<|jW (fun ρ=>(((m:Nat):Int)+((j:Nat):Int))) (fun _=>(m+j)) (fun _=>(aW m j (by omega)))<|jE [[],[],[]]) (fun ρ12 _=>?_)
 refine aF (mD [(4,(.slice (oa ρ12 2) (eiB x y).length (nb ρ12 2))),(5,(vn ((n+i)+1))),(6,(vn (m+j)))] [] ?_)
 exact mR (v:=(.tuple #[.slice (oa ρ12 2) (eiB x y).length (nb ρ12 2),vn ((n+i)+1),vn (m+j)])) (fun _ hS=>⟨oa ρ12 2,nb ρ12 2,congrArg Ending.returned (rfl),hS.bel,dU (rfl) hS.facts.now.2.2.2.2.2.2.2.1⟩)
theorem build_all:∀ (f:Nat) (s:Mk) (x:List UInt8) (s':Mk),f≤8→nx f s=some (x,s')→(∀ t∈s.ts,t.kd=2→t.ks.length=2)→mP s.ts→(∀ n∈s.ns,n<M)→s.ts.length≤1000000→s.ns.length≤1000000 →
    ∃ n m,BlC s.ts s.ns x n m∧s'.ts=s.ts.drop n∧s'.ns=s.ns.drop m∧n≤s.ts.length∧m≤s.ns.length
  | 0,_,_,_,_,h,_,_,_,_,_=>by simp [nx] at h
  | f + 1, s, x, s', hf, h, h2, ho, hU, ht, hn => by
    have hp:2^f≤2^7:=Nat.pow_le_pow_right (by decide) (by omega)
    have big:∀ {x:List UInt8} {s s1:Mk},nx f s=some (x,s1)→x.length≤1000000:=fun h=>by have:=nx_len f _ _ _ h;omega
    unfold nx at h
    split at h
    · exact absurd h (by simp)
    rename_i hc
    have hc:s.can=true:=by simpa using hc
    have hg:=Left.go hc
    have h0:=eX hc
    have hks:=fE hc
    have hfd:s.fst.fd=true:=(qO _ _ _ _ _).2 (vV hc)
    split at h
    · rename_i hk
      simp only [Option.some.injEq,Prod.mk.injEq] at h;rw [← h.1,← h.2]
      have h1:s.fst.ks.length=1:=by have:=vV hc;unfold o7 at this;omega
      refine ⟨1,1,fun a b c d w0 hT hV=>build1_any a c s.ts b d s.ns hk h0 hfd hks ho hU w0 hT hV,List.drop_one.symm,?_,h0,by omega⟩
      show s.ns.drop s.fst.ks.length=_
      rw [h1]
    split at h
    · rename_i hk
      simp only [Option.some.injEq,Prod.mk.injEq] at h;rw [← h.1,← h.2]
      exact ⟨1,s.fst.ks.length,fun a b c d w0 hT hV=>build2_any a c s.ts b d s.ns hk h0 hfd hks ho hU (h2 _ (fA h0) hk) w0 hT hV,List.drop_one.symm,rfl,h0,hks⟩
    split at h
    · exact absurd h (by simp)
    rename_i k1 k2 _ a s1 e1
    have hz:s.fst.ks.length=0:=fd_ks0 hfd k1 k2
    have en:s.go.ns=s.ns:=by show s.ns.drop s.fst.ks.length=s.ns;rw [hz];rfl
    have et:s.go.ts=s.ts.tail:=rfl
    obtain ⟨n,m,i1,q1,q2,q3,q4⟩:=build_all f _ _ _ (by omega) e1 (fun t ht=>h2 t (hg.m t ht)) (fun t ht=>ho t (hg.m t ht)) (by rw [en];exact hU) (by rw [et,List.length_tail];omega) (by rw [en];exact hn)
    rw [et] at i1 q1 q3
    rw [en] at i1 q2 q4
    rw [List.length_tail] at q3
    have d1:s.ts.tail.drop n=s.ts.drop (n+1):=by rw [← List.drop_one,List.drop_drop,Nat.add_comm]
    split at h
    · rename_i hk
      simp only [Option.some.injEq,Prod.mk.injEq] at h;rw [← h.1,← h.2]
      exact ⟨n+1,m,fun a' b c d w0 hT hV=>build3_any a' c s.ts b d s.ns a n m hk h0 hfd hks ho hU (big e1) (by omega) (by omega) i1 w0 hT hV,q1.trans d1,q2,by omega,q4⟩
    split at h
    · rename_i hk
      simp only [Option.some.injEq,Prod.mk.injEq] at h;rw [← h.1,← h.2]
      exact ⟨n+1,m,fun a' b c d w0 hT hV=>build4_any a' c s.ts b d s.ns a n m hk h0 hfd hks ho hU (big e1) (by omega) (by omega) i1 w0 hT hV,q1.trans d1,q2,by omega,q4⟩
    split at h
    · rename_i hk
      simp only [Option.some.injEq,Prod.mk.injEq] at h;rw [← h.1,← h.2]
      exact ⟨n+1,m,fun a' b c d w0 hT hV=>build5_any a' c s.ts b d s.ns a n m hk h0 hfd hks ho hU (big e1) (by omega) (by omega) i1 w0 hT hV,q1.trans d1,q2,by omega,q4⟩
    split at h
    · rename_i hk
      split at h
      · exact absurd h (by simp)
      rename_i b2 s2 e2
      have l1:=hg.trans (nx_left f _ _ _ e1)
      have t1:s1.ts=s.ts.drop (1+n):=by rw [q1,d1,Nat.add_comm]
      obtain ⟨i,j,i2,r1,r2,r3,r4⟩:=build_all f _ _ _ (by omega) e2 (fun t ht=>h2 t (l1.m t ht)) (fun t ht=>ho t (l1.m t ht)) (by rw [q2];exact fun n hn=>hU n (List.mem_of_mem_drop hn)) (by rw [t1,List.length_drop];omega) (by rw [q2,List.length_drop];omega)
      rw [t1] at i2 r1 r3
      rw [q2] at i2 r2 r4
      rw [List.length_drop] at r3 r4
      simp only [Option.some.injEq,Prod.mk.injEq] at h;rw [← h.1,← h.2]
      refine ⟨n+i+1,m+j,fun a' b c d w0 hT hV=>build6_any a' c s.ts b d s.ns a n m b2 i j hk h0 hfd hks ho hU (big e1) (by omega) (by omega) i1 (big e2) (by omega) (by omega) (by omega) q4 i2 w0 hT hV,?_,?_,by omega,by omega⟩
      · rw [r1,List.drop_drop];congr 1;omega
      · rw [r2,List.drop_drop]
    · exact absurd h (by simp)
theorem build_ex {ts:List bW} {z:Int} (h0:kZ ts z=0) (h2:∀ t∈ts,t.kd=2→t.ks.length=2) (ho:mP ts) (ht:ts.length≤1000000) (hU:∀ n∈gV ts z,n<M) (hn:(gV ts z).length≤1000000):∃ n m,BlC ts (gV ts z) (xP ts z) n m:=by
  obtain ⟨s',h⟩:=nx_go h0 none 0 none 0
  obtain ⟨n,m,h1,_⟩:=build_all 8 _ _ _ (Nat.le_refl 8) h h2 ho hU ht hn
  exact ⟨n,m,h1⟩
theorem rhmac_any (a:Option Addr) (c:Nat) (K:Nat) (a2:Option Addr) (c2:Nat) (S:List UInt8) (hl:S.length+200≤140737488351232) (w0:World) (hf0:Bs w0 a c (hL K)) (hf1:Bs w0 a2 c2 S):Calls Tryz.prog 75 #[.slice a (hL K).length c,.slice a2 S.length c2] w0 (jR (.agg (hB (hmN K S))) w0):=by
 refine Calls.of_ok (n:=51) (F:=(fun w=>Bs w a c (hL K)∧Bs w a2 c2 S∧True)) Tryz.func75 rfl rfl rfl (by simp) (hf0.pers0.and (hf1.pers0.and cO)) ?_
 refine sS Tryz.f75 1 [0,1,4] [] (fun ρ=>[pt (nb ρ 0)]) (fun ρ=>[(0,(nw ρ 0 (cL (hB 0) 43)))]) (jE [[]]) (fun ρ1=>?_)
 refine aB ?_
 refine sS Tryz.f75 3 [0,1,4,13] [] (fun _=>[.slice a (hL K).length c,vn (hL K).length,vF]) (fun _=>[]) (cR [[],[]]<|jQ (fun ρ=>(decide (64<(((hL K).length:Nat):Int)))) false (fun _=>(decide_eq_false (by rw [aO];decide)))<|cN) (fun _=>?_)
 refine oN ?_
 refine aG (aA ?_)
 refine sD Tryz.f75 [0,0,1,7] 4 [0,1,4,6,7] [] (fun ρ=>let qa:=vs (nb ρ 0) (List.replicate 64 (0:UInt8)).length 64;let qb:=vs (nb ρ 1) (List.replicate 64 (0:UInt8)).length 64;[qa,qb,qa,qb]) (fun ρ=>[(0,(nw ρ 0 (cL (zB 64) 5))),(1,(nw ρ 1 (cL (zB 64) 5)))]) (cX (uB _ (fun _=>do pure (Next.value (← Instr.makeSlice 33 (vi 64) (vi 64)))) (fun _ ζ=>(vs (ζ.headD 0) (List.replicate 64 (0:UInt8)).length 64)) (fun _ _=>(cL (zB 64) 5)) (fun _ _=>(by kernel_rfl)) (fun _=>(by kernel_rfl)) (fun _ _=>trivial) (fun _ _ w _=>mM Tryz.underlying33 nH (List.replicate 64 (0:UInt8)) (by rw [List.length_replicate];rfl) (rfl) (by rw [List.length_replicate];exact Nat.le_refl _) (by decide) w))<|cX (uB _ (fun _=>do pure (Next.value (← Instr.makeSlice 33 (vi 64) (vi 64)))) (fun _ ζ=>(vs (ζ.headD 0) (List.replicate 64 (0:UInt8)).length 64)) (fun _ _=>(cL (zB 64) 5)) (fun _ _=>(by kernel_rfl)) (fun _=>(by kernel_rfl)) (fun _ _=>trivial) (fun _ _ w _=>mM Tryz.underlying33 nH (List.replicate 64 (0:UInt8)) (by rw [List.length_replicate];rfl) (rfl) (by rw [List.length_replicate];exact Nat.le_refl _) (by decide) w))<|jE [[],[]]) (fun ρ3=>?_)
 refine aB (jJ Tryz.f75 3 [0,1,4,6,7,20,21] [vs (nb ρ3 0) (List.replicate 64 (0:UInt8)).length 64,vn (List.replicate 64 (0:UInt8)).length,vi 0] (aI ?_))
 refine oL (σ:=Nat × (Array Value) × (Array Value)) (fun ⟨m,_,_⟩=>[(0,(.slice a (hL K).length c)),(1,(.slice a2 S.length c2)),(4,(pt (nb ρ1 0))),(6,(vs (nb ρ3 0) (List.replicate 64 (0:UInt8)).length 64)),(7,(vs (nb ρ3 1) (List.replicate 64 (0:UInt8)).length 64)),(20,(vn (List.replicate 64 (0:UInt8)).length)),(21,(vn m))]) (fun ⟨_,C1,C2⟩=>[(nb ρ1 0,(cL (hB 0) 43)),(nb ρ3 0,(cL C1 5)),(nb ρ3 1,(cL C2 5))]) (fun ⟨m,_,_⟩=>64-m)
   (fun ⟨m,C1,C2⟩=>(m≤64)∧(C1=(bs (fl2 (xB 54 K) 64 m)).toArray)∧(C2=(bs (fl2 (xB 92 K) 64 m)).toArray)) (0,zB 64,zB 64) (⟨by decide,by rw [fl2_zero];rfl,by rw [fl2_zero];rfl⟩) [] ?_
 rintro ⟨m,C1,C2⟩ ⟨hm,hC1,hC2⟩
 change Ok Tryz.prog _ _ 51 [(0,(.slice a (hL K).length c)),(1,(.slice a2 S.length c2)),(4,(pt (nb ρ1 0))),(6,(vs (nb ρ3 0) (List.replicate 64 (0:UInt8)).length 64)),(7,(vs (nb ρ3 1) (List.replicate 64 (0:UInt8)).length 64)),(20,(vn (List.replicate 64 (0:UInt8)).length)),(21,(vn m))] _ [(nb ρ1 0,(cL (hB 0) 43)),(nb ρ3 0,(cL C1 5)),(nb ρ3 1,(cL C2 5))] (fun w=>Bs w a c (hL K)∧Bs w a2 c2 S∧True)
 refine jJ Tryz.f75 1 [0,1,4,6,7,20,21,22] [.bool (decide (((m:Nat):Int)<(((List.replicate 64 (0:UInt8)).length:Nat):Int)))] (aB ?_)
 refine oC (decide (((m:Nat):Int)<(((List.replicate 64 (0:UInt8)).length:Nat):Int))) (fun hb1=>?_) (fun hb1=>?_)
 ·
  rw [hb1]
  have:=yT hb1
  refine aG (aA (aB (aI (jJ Tryz.f75 2 [0,1,4,6,7,8,20,21] [vn m,vn m] (jJ Tryz.f75 1 [0,1,4,6,7,8,9,20,21] [.int .u8 0] (aB (jJ Tryz.f75 4 [0,1,4,6,7,8,9,20,21,27] [vn m,.slice a (hL K).length c,vn (hL K).length,.bool (decide (((m:Nat):Int)<(((hL K).length:Nat):Int)))] ?_)))))))
  refine oC (decide (((m:Nat):Int)<(((hL K).length:Nat):Int))) (fun hb2=>?_) (fun hb2=>?_)
  ·
   rw [hb2]
   have:=yT hb2
   refine rS Tryz.f75 5 [0,1,4,6,7,8,9,20,21] [] (fun _=>[.slice a (hL K).length c,vn m,.pointer (fK a m),vy (gB (hL K) m),vy (gB (hL K) m)]) (fun _=>[]) (cR [[],[]]<|cX (qF (fun _ _ _ hG=>idx_bytes (k:=.i64) Tryz.underlying33 nH hG.fn.1 rfl (show ((m:Nat):Int)=((m:Nat):Int) from rfl) (show m<(hL K).length from (by rw [aO];exact (by have h9:=yT hb2;rw [aO] at h9;omega)))))<|cX (qF (fun _ _ _ hG=>ld_bytes Tryz.isAgg5 hG.fn.1 (show m<(hL K).length from (by rw [aO];exact (by have h9:=yT hb2;rw [aO] at h9;omega)))))<|jE [[]]) (fun _=>?_)
   refine aA ?_
   refine rS Tryz.f75 12 [0,1,4,6,7,20,21] [] (fun _=>[vs (nb ρ3 0) (List.replicate 64 (0:UInt8)).length 64,vn m,vs (nb ρ3 1) (List.replicate 64 (0:UInt8)).length 64,vn m,vy (gB (hL K) m),vy (gB (xB 54 K) m),vy (gB (hL K) m),vy (gB (xB 92 K) m),jp (nb ρ3 0) m,undef,jp (nb ρ3 1) m,undef]) (fun _=>[(9,(bD 1 (nb ρ3 0) (cL (bs (fl2 (xB 54 K) 64 (m+1))).toArray 5))),(11,(bD 2 (nb ρ3 1) (cL (bs (fl2 (xB 92 K) 64 (m+1))).toArray 5)))]) (cR [[],[],[],[],[]]<|cA (v:=fun ρ=>(.int .u8 (bits .xor .u8 ((gB (hL K) m:Nat):Int) 54))) (fun _=>(vy (gB (xB 54 K) m))) (fun _=>congrArg (Value.int .u8) (hm_xorL54 (K:=K) (i:=m) (by have h9:=yT hb2;rw [aO] at h9;omega)))<|cR [[]]<|cA (v:=fun ρ=>(.int .u8 (bits .xor .u8 ((gB (hL K) m:Nat):Int) 92))) (fun _=>(vy (gB (xB 92 K) m))) (fun _=>congrArg (Value.int .u8) (hm_xorL92 (K:=K) (i:=m) (by have h9:=yT hb2;rw [aO] at h9;omega)))<|cX (qS (fun _ w=>uI (g:=nb ρ3 0) (c:=64) (k:=.i64) Tryz.underlying33 nH (show ((m:Nat):Int)=((m:Nat):Int) from rfl) (show m<(List.replicate 64 (0:UInt8)).length from (by rw [List.length_replicate];have:=List.length_replicate (n:=64) (a:=(0:UInt8));omega)) w))<|cX (qG _ 1 5 (fun _=>nb ρ3 0) (fun _=>m) (fun _=>C1) (fun _=>(bs (fl2 (xB 54 K) 64 (m+1))).toArray) 5 (fun _=>(vy (gB (xB 54 K) m))) (fun _=>by kernel_rfl) Tryz.sizeOf5 (fun _=>rfl) (fun _=>(by rw [hC1,List.size_toArray,dH,xM (eP _ _) hm];have:=List.length_replicate (n:=64) (a:=(0:UInt8));omega)) (fun _=>(by rw [hC1];exact fl2_set (eP _ _) (by have:=List.length_replicate (n:=64) (a:=(0:UInt8));omega) rfl)))<|cX (qS (fun _ w=>uI (g:=nb ρ3 1) (c:=64) (k:=.i64) Tryz.underlying33 nH (show ((m:Nat):Int)=((m:Nat):Int) from rfl) (show m<(List.replicate 64 (0:UInt8)).length from (by rw [List.length_replicate];have:=List.length_replicate (n:=64) (a:=(0:UInt8));omega)) w))<|cX (qG _ 2 5 (fun _=>nb ρ3 1) (fun _=>m) (fun _=>C2) (fun _=>(bs (fl2 (xB 92 K) 64 (m+1))).toArray) 5 (fun _=>(vy (gB (xB 92 K) m))) (fun _=>by kernel_rfl) Tryz.sizeOf5 (fun _=>rfl) (fun _=>(by rw [hC2,List.size_toArray,dH,xM (eP _ _) hm];have:=List.length_replicate (n:=64) (a:=(0:UInt8));omega)) (fun _=>(by rw [hC2];exact fl2_set (eP _ _) (by have:=List.length_replicate (n:=64) (a:=(0:UInt8));omega) rfl)))<|cN) (fun _=>?_)
   refine aJ (aA ?_)
   refine rS Tryz.f75 2 [0,1,4,6,7,20,21] [] (fun _=>[vn (m+1),vn (m+1)]) (fun _=>[]) (jW (fun ρ=>(((m:Nat):Int)+1)) (fun _=>(m+1)) (fun _=>(aW m 1 (by have:=List.length_replicate (n:=64) (a:=(0:UInt8));omega)))<|jE [[]]) (fun _=>?_)
   exact mN (m+1,(bs (fl2 (xB 54 K) 64 (m+1))).toArray,(bs (fl2 (xB 92 K) 64 (m+1))).toArray) (by show 64-(m+1)<64-m;have:=List.length_replicate (n:=64) (a:=(0:UInt8));omega) (⟨(by have:=List.length_replicate (n:=64) (a:=(0:UInt8));omega),rfl,rfl⟩) []
  rw [hb2]
  have:=yF hb2
  refine aG (aA ?_)
  refine rS Tryz.f75 12 [0,1,4,6,7,20,21] [] (fun _=>[vs (nb ρ3 0) (List.replicate 64 (0:UInt8)).length 64,vn m,vs (nb ρ3 1) (List.replicate 64 (0:UInt8)).length 64,vn m,.int .u8 0,.int .u8 54,.int .u8 0,.int .u8 92,jp (nb ρ3 0) m,undef,jp (nb ρ3 1) m,undef]) (fun _=>[(9,(bD 1 (nb ρ3 0) (cL (bs (fl2 (xB 54 K) 64 (m+1))).toArray 5))),(11,(bD 2 (nb ρ3 1) (cL (bs (fl2 (xB 92 K) 64 (m+1))).toArray 5)))]) (cR [[],[],[],[],[],[],[],[]]<|cX (qS (fun _ w=>uI (g:=nb ρ3 0) (c:=64) (k:=.i64) Tryz.underlying33 nH (show ((m:Nat):Int)=((m:Nat):Int) from rfl) (show m<(List.replicate 64 (0:UInt8)).length from (by rw [List.length_replicate];have:=List.length_replicate (n:=64) (a:=(0:UInt8));omega)) w))<|cX (qG _ 1 5 (fun _=>nb ρ3 0) (fun _=>m) (fun _=>C1) (fun _=>(bs (fl2 (xB 54 K) 64 (m+1))).toArray) 5 (fun _=>(.int .u8 54)) (fun _=>by kernel_rfl) Tryz.sizeOf5 (fun _=>rfl) (fun _=>(by rw [hC1,List.size_toArray,dH,xM (eP _ _) hm];have:=List.length_replicate (n:=64) (a:=(0:UInt8));omega)) (fun _=>(by rw [hC1];exact fl2_set (eP _ _) (by have:=List.length_replicate (n:=64) (a:=(0:UInt8));omega) (kx_out54 (by have h9:=yF hb2;rw [aO] at h9;omega) (by have:=List.length_replicate (n:=64) (a:=(0:UInt8));omega)))))<|cX (qS (fun _ w=>uI (g:=nb ρ3 1) (c:=64) (k:=.i64) Tryz.underlying33 nH (show ((m:Nat):Int)=((m:Nat):Int) from rfl) (show m<(List.replicate 64 (0:UInt8)).length from (by rw [List.length_replicate];have:=List.length_replicate (n:=64) (a:=(0:UInt8));omega)) w))<|cX (qG _ 2 5 (fun _=>nb ρ3 1) (fun _=>m) (fun _=>C2) (fun _=>(bs (fl2 (xB 92 K) 64 (m+1))).toArray) 5 (fun _=>(.int .u8 92)) (fun _=>by kernel_rfl) Tryz.sizeOf5 (fun _=>rfl) (fun _=>(by rw [hC2,List.size_toArray,dH,xM (eP _ _) hm];have:=List.length_replicate (n:=64) (a:=(0:UInt8));omega)) (fun _=>(by rw [hC2];exact fl2_set (eP _ _) (by have:=List.length_replicate (n:=64) (a:=(0:UInt8));omega) (kx_out92 (by have h9:=yF hb2;rw [aO] at h9;omega) (by have:=List.length_replicate (n:=64) (a:=(0:UInt8));omega)))))<|cN) (fun _=>?_)
  refine aJ (aA ?_)
  refine rS Tryz.f75 2 [0,1,4,6,7,20,21] [] (fun _=>[vn (m+1),vn (m+1)]) (fun _=>[]) (jW (fun ρ=>(((m:Nat):Int)+1)) (fun _=>(m+1)) (fun _=>(aW m 1 (by have:=List.length_replicate (n:=64) (a:=(0:UInt8));omega)))<|jE [[]]) (fun _=>?_)
  exact mN (m+1,(bs (fl2 (xB 54 K) 64 (m+1))).toArray,(bs (fl2 (xB 92 K) 64 (m+1))).toArray) (by show 64-(m+1)<64-m;have:=List.length_replicate (n:=64) (a:=(0:UInt8));omega) (⟨(by have:=List.length_replicate (n:=64) (a:=(0:UInt8));omega),rfl,rfl⟩) []
 rw [hb1]
 refine bF (aN (aN (aT ?_)))
 rw [(show C1=(bs (xB 54 K)).toArray from hC1.trans (by rw [fl2_end (eP _ _) (by have:=yF hb1;have:=List.length_replicate (n:=64) (a:=(0:UInt8));omega)]))]
 rw [(show C2=(bs (xB 92 K)).toArray from hC2.trans (by rw [fl2_end (eP _ _) (by have:=yF hb1;have:=List.length_replicate (n:=64) (a:=(0:UInt8));omega)]))]
 refine aA ?_
 refine iZ Tryz.f75 6 [4,7,10] [1,0,1,1] (fun ρ=>[vs (nb ρ3 0) (List.replicate 64 (0:UInt8)).length 64,.slice a2 S.length c2,vs (nb ρ 2) ((xB 54 K)++S).length (aZ ρ 2),.agg (hB (aU ((xB 54 K)++S))),pt (nb ρ 4),undef]) (fun ρ=>[(2,(bD 1 (nb ρ 2) (cL (oc ρ 2) 5))),(4,(nw ρ 4 (cL (hB 0) 43))),(5,(bD 35 (nb ρ 4) (cL (hB (aU ((xB 54 K)++S))) 43)))]) (fun ρ=>[(2,fun w=>Ap (oc ρ 2) ((xB 54 K)++S) (aZ ρ 2))]) (fun _=>(fun w=>Bs w a c (hL K)∧Bs w a2 c2 S∧True)) (fun ρ=>Ap (oc ρ 2) ((xB 54 K)++S) (aZ ρ 2)) (fun _ _ hF hf=>⟨hF,hf 2⟩) (cR [[],[]]<|cX (qM 1 (fun _ _ _ hG hg=>app_any (ty:=33) (g:=nb ρ3 0) (C:=(bs (xB 54 K)).toArray) (c:=64) (xs:=xB 54 K) Tryz.underlying33 nH (Ap.mk' (Hd.all _) (Nat.le_of_eq (eP _ _)) (by rw [eP];decide) (by rw [List.size_toArray,dH,eP])) (Bs.src (tx:=33) Tryz.underlying33 hG.fn.2.1) (by rw [eP];omega) hg))<|cX (qC (fun ρ _ w hG=>uY (some ⟨nb ρ 2,0,none⟩) (aZ ρ 2) ((xB 54 K)++S) (by simp only [List.length_append,eP];omega) (by simp only [List.length_append,eP];omega) w (Bs.of_hd (hG.kn (g:=nb ρ 2) (o:=(cL (oc ρ 2) 5)) 1) (show Ap (oc ρ 2) ((xB 54 K)++S) (aZ ρ 2) from (hG.facts 2 rfl).now).hd (show Ap (oc ρ 2) ((xB 54 K)++S) (aZ ρ 2) from (hG.facts 2 rfl).now).le (show Ap (oc ρ 2) ((xB 54 K)++S) (aZ ρ 2) from (hG.facts 2 rfl).now).max)))<|jE [[],[35]]) (fun ρ14 ap14_2=>?_)
 refine iZ Tryz.f75 5 [4] [1,0,0] (fun ρ=>[vs (nb ρ3 1) (List.replicate 64 (0:UInt8)).length 64,vs (nb ρ14 4) (hL (aU ((xB 54 K)++S))).length 32,vs (nb ρ 2) ((xB 92 K)++(hL (aU ((xB 54 K)++S)))).length (aZ ρ 2),.agg (hB (aU ((xB 92 K)++(hL (aU ((xB 54 K)++S)))))),undef]) (fun ρ=>[(2,(bD 1 (nb ρ 2) (cL (oc ρ 2) 5))),(4,(bD 0 (nb ρ1 0) (cL (hB (aU ((xB 92 K)++(hL (aU ((xB 54 K)++S)))))) 43)))]) (fun ρ=>[(2,fun w=>Ap (oc ρ 2) ((xB 92 K)++(hL (aU ((xB 54 K)++S)))) (aZ ρ 2))]) (fun _=>(fun w=>Bs w a c (hL K)∧Bs w a2 c2 S∧True)) (fun ρ=>Ap (oc ρ 2) ((xB 92 K)++(hL (aU ((xB 54 K)++S)))) (aZ ρ 2)) (fun _ _ hF hf=>⟨hF,hf 2⟩) (cR [[],[]]<|cX (qM 1 (fun _ _ _ hG hg=>app_any (ty:=33) (g:=nb ρ3 1) (C:=(bs (xB 92 K)).toArray) (c:=64) (xs:=xB 92 K) Tryz.underlying33 nH (Ap.mk' (Hd.all _) (Nat.le_of_eq (eP _ _)) (by rw [eP];decide) (by rw [List.size_toArray,dH,eP])) (Bs.src (tx:=33) Tryz.underlying33 (Bs.of_hd (c:=32) (hG.kn (g:=nb ρ14 4) (o:=(cL (hB (aU ((xB 54 K)++S))) 43)) 2) (kP _) (Nat.le_refl _) (Nat.le_of_ble_eq_true rfl))) (by simp only [eP,aO];omega) hg))<|cX (qC (fun ρ _ w hG=>uY (some ⟨nb ρ 2,0,none⟩) (aZ ρ 2) ((xB 92 K)++(hL (aU ((xB 54 K)++S)))) (by simp only [List.length_append,eP];omega) (by simp only [List.length_append,eP,aO];omega) w (Bs.of_hd (hG.kn (g:=nb ρ 2) (o:=(cL (oc ρ 2) 5)) 1) (show Ap (oc ρ 2) ((xB 92 K)++(hL (aU ((xB 54 K)++S)))) (aZ ρ 2) from (hG.facts 2 rfl).now).hd (show Ap (oc ρ 2) ((xB 92 K)++(hL (aU ((xB 54 K)++S)))) (aZ ρ 2) from (hG.facts 2 rfl).now).le (show Ap (oc ρ 2) ((xB 92 K)++(hL (aU ((xB 54 K)++S)))) (aZ ρ 2) from (hG.facts 2 rfl).now).max)))<|jE [[0]]) (fun _ ap15_2=>?_)
 refine aF ?_
 exact mR (v:=(.agg (hB (aU ((xB 92 K)++(hL (aU ((xB 54 K)++S)))))))) (fun _ hS=>⟨rfl,hS.bel⟩)
theorem rstep_any (k:Ky) (i:Nat) (hk:k.Ok) (hi:i<4294967296) (hsn:fC k=true) (w0:World):Calls Tryz.prog 41 #[.agg (kY k),vu i] w0 (jR (.tuple #[.agg (kY (chK k i)),vi (chE k i)]) w0):=by
 refine Calls.of_ok (n:=88) (F:=(fun _=>True)) Tryz.func41 rfl rfl rfl (by simp) jT ?_
 refine sS Tryz.f41 3 [1,2,4,5] [] (fun ρ=>[pt (nb ρ 0),pt (nb ρ 1),vi 0]) (fun ρ=>[(0,(nw ρ 0 (cL (kY k) 48))),(1,(nw ρ 1 (cL (kC 0 0 0 0 0 0) 48)))]) (jE [[],[],[]]) (fun ρ1=>?_)
 refine aB (jM Tryz.f41 3 [1,2,4,5,12] [] [jp (nb ρ1 0) 40,vi k.d,.bool (decide (8≤k.d))] [[],[0],[]] ?_)
 refine oC (decide (8≤k.d)) (fun hb1=>?_) (fun hb1=>?_)
 ·
  rw [hb1]
  refine sS Tryz.f41 3 [1,2,4,5] [] (fun _=>[.agg (kC 0 0 0 0 0 0),undef,vi 4]) (fun _=>[(1,(bD 1 (nb ρ1 1) (cL (kC 0 0 0 0 0 0) 48)))]) (jE [[],[1],[]]) (fun _=>?_)
  refine aF (aC ?_)
  exact mR (v:=(.tuple #[.agg (kC 0 0 0 0 0 0),vi 4])) (ps:=[1,1,1,1,1,1,1,1,1,1,1,1,1,1,1,1,1,1,1,1,1,1,1,1,1,1,1,1,1,1,1,1,1,1,1,1,1,1,1,1,1,1,1]) (fun _ hS=>⟨by rw [(ch_4 (i:=i) hsn (d8_t hsn hb1)).1,(ch_4 (i:=i) hsn (d8_t hsn hb1)).2];rfl,hS.bel⟩)
 rw [hb1]
 have:=yF hb1
 refine aG (aA ?_)
 refine sS Tryz.f41 5 [1,2,4,5,6] [] (fun _=>let qa:Value:=.bool (!(decide (k.s=0)));[pt (nb ρ1 0),U k.s,.bool (decide (k.s=0)),qa,qa]) (fun _=>[]) (cR [[],[0]]<|cC (fun _ w=>iI k.s w hk.s)<|jE [[],[]]) (fun _=>?_)
 refine aB ?_
 rcases Bool.eq_false_or_eq_true (decide (2147483648≤((i:Nat):Int))) with hb2 | hb2
 ·
  refine sS Tryz.f41 6 [1,2,4,5,6,23] [] (fun _=>let qa:Value:=.bool (!(!(decide (k.s=0))));[vu i,vT,vT,.bool (!(decide (k.s=0))),qa,qa]) (fun _=>[]) (cR [[]]<|cA (fun _=>vT) (fun _=>congrArg Value.bool hb2)<|jE [[],[],[],[]]) (fun _=>?_)
  refine oC (!(!(decide (k.s=0)))) (fun hb3=>?_) (fun hb3=>?_)
  ·
   rw [hb3]
   refine sS Tryz.f41 3 [1,2,4,5,6] [] (fun _=>[.agg (kC 0 0 0 0 0 0),undef,vi 250]) (fun _=>[(1,(bD 1 (nb ρ1 1) (cL (kC 0 0 0 0 0 0) 48)))]) (jE [[],[1],[]]) (fun _=>?_)
   refine aF (aC ?_)
   exact mR (v:=(.tuple #[.agg (kC 0 0 0 0 0 0),vi 250])) (ps:=[1,1,1,1,1,1,1,1,1,1,1,1,1,1,1,1,1,1,1,1,1,1,1,1,1,1,1,1,1,1,1,1,1,1,1,1,1,1,1,1,1,1,1]) (fun _ hS=>⟨by rw [(ch_250 hsn (zC hb1) (hd_t hb2) (yT (aV (dF hb3)))).1,(ch_250 hsn (zC hb1) (hd_t hb2) (yT (aV (dF hb3)))).2];rfl,hS.bel⟩)
  rw [hb3]
  refine aG (aA ?_)
  refine sDf Tryz.f41 [0,1,0,4,12,31,63,0,255,511,0,2047] 12 [1,2,4,5,6,7] [1,1,0,1] (fun ρ=>[jp (nb ρ1 0) 8,.slice (some ⟨nb ρ1 0,8,none⟩) (hL k.c).length 32,jp (nb ρ1 0) 4,U k.p,.slice (oa ρ 4) (hL k.p).length (nb ρ 4),vs (nb ρ 5) 2 2,.slice (oa ρ 6) ((hL k.c)++(hL k.p)).length (nb ρ 6),vu i,.slice (oa ρ 8) (((hL k.c)++(hL k.p))++leB i 4).length (nb ρ 8),.agg (hB (lV tgS (((hL k.c)++(hL k.p))++leB i 4))),pt (nb ρ 10),undef]) (fun ρ=>[(5,(nw ρ 5 (cL #[.slice (some ⟨nb ρ1 0,8,none⟩) (hL k.c).length 32,.slice (oa ρ 4) (hL k.p).length (nb ρ 4)] 33))),(10,(nw ρ 10 (cL (hB 0) 43))),(11,(bD 82 (nb ρ 10) (cL (hB (lV tgS (((hL k.c)++(hL k.p))++leB i 4))) 43)))]) (fun ρ=>[(4,fun w=>Fs w0 w (oa ρ 4) (nb ρ 4) (hL k.p)),(6,fun w=>Fs w0 w (oa ρ 6) (nb ρ 6) ((hL k.c)++(hL k.p))),(8,fun w=>Fs w0 w (oa ρ 8) (nb ρ 8) (((hL k.c)++(hL k.p))++leB i 4))]) (fun ρ=>(fun w=>Fs w0 w (oa ρ 4) (nb ρ 4) (hL k.p)∧Fs w0 w (oa ρ 6) (nb ρ 6) ((hL k.c)++(hL k.p))∧Fs w0 w (oa ρ 8) (nb ρ 8) (((hL k.c)++(hL k.p))++leB i 4)∧True)) (fun _=>True) (fun _ _ _ hf=>⟨⟨hf 4,hf 6,hf 8,trivial⟩,trivial⟩) (cR [[],[],[],[0]]<|cX (qB (fun _ _ w _=>oJ k.p hk.p w))<|cR [[]]<|cX (qB (fun ρ _ w hG=>join2_any (nb ρ 5) (some ⟨nb ρ1 0,8,none⟩) 32 (hL k.c) (oa ρ 4) (nb ρ 4) (hL k.p) (by simp only [aO];omega) (by rw [aO];decide) w (Kb.of_block (hG.kn (g:=nb ρ 5) (o:=(cL #[.slice (some ⟨nb ρ1 0,8,none⟩) (hL k.c).length 32,.slice (oa ρ 4) (hL k.p).length (nb ρ 4)] 33)) 42)) (Bs.of_key (hG.kn (g:=nb ρ1 0) (o:=(cL (kY k) 48)) 0)) (show Fs w0 w (oa ρ 4) (nb ρ 4) (hL k.p) from (hG.facts 4 rfl).now).1))<|cR [[]]<|cX (qB (fun ρ _ w hG=>rM (oa ρ 6) (nb ρ 6) ((hL k.c)++(hL k.p)) i (by have:=yT hb2;omega) (by simp only [List.length_append,aO];have:=yT hb2;omega) w (show Fs w0 w (oa ρ 6) (nb ρ 6) ((hL k.c)++(hL k.p)) from (hG.facts 6 rfl).now).1))<|cX (qC (fun ρ _ w hG=>wK tgS (oa ρ 8) (nb ρ 8) (((hL k.c)++(hL k.p))++leB i 4) (by decide) (by simp only [List.length_append,aO,eQ];omega) w (show Fs w0 w (oa ρ 8) (nb ρ 8) (((hL k.c)++(hL k.p))++leB i 4) from (hG.facts 8 rfl).now).1))<|jE [[],[82]]) (fun ρ7 _=>?_)
  refine aB ?_
  refine sS Tryz.f41 2 [1,2,4,5,6,7,36] [] (fun _=>[vu i,vT]) (fun _=>[]) (cR [[]]<|cA (fun _=>vT) (fun _=>congrArg Value.bool hb2)<|cN) (fun _=>?_)
  refine oY ?_
  refine rDf Tryz.f41 [0,1,0,4,12,31,63,0,255,511,1023] 11 [1,2,4,5,6,7] [1,1,1,0] (fun ρ=>[jp (nb ρ1 0) 8,.slice (some ⟨nb ρ1 0,8,none⟩) (hL k.c).length 32,pt (nb ρ1 0),U k.s,.slice (oa ρ 4) (hL k.s).length (nb ρ 4),vs (nb ρ 5) 2 2,.slice (oa ρ 6) ((hL k.c)++(hL k.s)).length (nb ρ 6),vu i,.slice (oa ρ 8) (((hL k.c)++(hL k.s))++leB i 4).length (nb ρ 8),.agg (hB (bT k i)),undef]) (fun ρ=>[(5,(nw ρ 5 (cL #[.slice (some ⟨nb ρ1 0,8,none⟩) (hL k.c).length 32,.slice (oa ρ 4) (hL k.s).length (nb ρ 4)] 33))),(10,(bD 2 (nb ρ7 10) (cL (hB (bT k i)) 43)))]) (fun ρ=>[(4,fun w=>Fs w0 w (oa ρ 4) (nb ρ 4) (hL k.s)),(6,fun w=>Fs w0 w (oa ρ 6) (nb ρ 6) ((hL k.c)++(hL k.s))),(8,fun w=>Fs w0 w (oa ρ 8) (nb ρ 8) (((hL k.c)++(hL k.s))++leB i 4))]) (fun ρ=>(fun w=>Fs w0 w (oa ρ7 4) (nb ρ7 4) (hL k.p)∧Fs w0 w (oa ρ7 6) (nb ρ7 6) ((hL k.c)++(hL k.p))∧Fs w0 w (oa ρ7 8) (nb ρ7 8) (((hL k.c)++(hL k.p))++leB i 4)∧Fs w0 w (oa ρ 4) (nb ρ 4) (hL k.s)∧Fs w0 w (oa ρ 6) (nb ρ 6) ((hL k.c)++(hL k.s))∧Fs w0 w (oa ρ 8) (nb ρ 8) (((hL k.c)++(hL k.s))++leB i 4)∧True)) (fun _=>True) (fun _ _ hF hf=>⟨⟨hF.1,hF.2.1,hF.2.2.1,hf 4,hf 6,hf 8,trivial⟩,trivial⟩) (cR [[],[],[],[0]]<|cX (qB (fun _ _ w _=>oJ k.s hk.s w))<|cR [[]]<|cX (qB (fun ρ _ w hG=>join2_any (nb ρ 5) (some ⟨nb ρ1 0,8,none⟩) 32 (hL k.c) (oa ρ 4) (nb ρ 4) (hL k.s) (by simp only [aO];omega) (by rw [aO];decide) w (Kb.of_block (hG.kn (g:=nb ρ 5) (o:=(cL #[.slice (some ⟨nb ρ1 0,8,none⟩) (hL k.c).length 32,.slice (oa ρ 4) (hL k.s).length (nb ρ 4)] 33)) 43)) (Bs.of_key (hG.kn (g:=nb ρ1 0) (o:=(cL (kY k) 48)) 0)) (show Fs w0 w (oa ρ 4) (nb ρ 4) (hL k.s) from (hG.facts 4 rfl).now).1))<|cR [[]]<|cX (qB (fun ρ _ w hG=>rM (oa ρ 6) (nb ρ 6) ((hL k.c)++(hL k.s)) i (by have:=yT hb2;omega) (by simp only [List.length_append,aO];have:=yT hb2;omega) w (show Fs w0 w (oa ρ 6) (nb ρ 6) ((hL k.c)++(hL k.s)) from (hG.facts 6 rfl).now).1))<|cX (o_callP _ 71 (fun ρ=> #[.string ⟨#[108,105,103,104,116,99,108,105,101,110,116,47,104,97,114,100]⟩,.slice (oa ρ 8) (((hL k.c)++(hL k.s))++leB i 4).length (nb ρ 8)]) (fun _=>(.agg (hB (bT k i)))) (fun _ _=>(by kernel_rfl)) (fun _=>(by kernel_rfl)) (fun _ _=>(by kernel_rfl)) (fun _ _=>trivial) (fun ρ _ w hG=>(by as_aux_lemma=>(have hcall:=wK tgH (oa ρ 8) (nb ρ 8) (((hL k.c)++(hL k.s))++leB i 4) (by decide) (by simp only [List.length_append,aO,eQ];omega) w (show Fs w0 w (oa ρ 8) (nb ρ 8) (((hL k.c)++(hL k.s))++leB i 4) from (hG.facts 8 rfl).now).1;rw [twk_1 (k:=k) hb2] at hcall;exact hcall))))<|jE [[2]]) (fun _ _=>?_)
  refine aA ?_
  refine sD Tryz.f41 [0,1,0,7,0,16,48,0,0,271,1023,0,4095] 13 [2,4,5,6,7,8] [] (fun ρ=>[jp (nb ρ1 0) 8,.slice (some ⟨nb ρ1 0,8,none⟩) (hL k.c).length 32,vs (nb ρ7 10) (hL (bT k i)).length 32,.agg (hB (hmN k.c (hL (bT k i)))),jp (nb ρ1 0) 40,vi k.d,vi (k.d+1),vu i,.agg (kY k),vu (o8 k.p),.agg (kC 0 0 (hmN k.c (hL (bT k i))) (k.d+1) ((i:Nat):Int) ((o8 k.p:Nat):Int)),pt (nb ρ 11),undef]) (fun ρ=>[(11,(nw ρ 11 (cL (kC 0 0 0 0 0 0) 48))),(12,(bD 91 (nb ρ 11) (cL (kC 0 0 (hmN k.c (hL (bT k i))) (k.d+1) ((i:Nat):Int) ((o8 k.p:Nat):Int)) 48)))]) (cR [[],[],[]]<|cX (qC (fun _ _ w hG=>rhmac_any (some ⟨nb ρ1 0,8,none⟩) 32 k.c (some ⟨nb ρ7 10,0,none⟩) 32 (hL (bT k i)) (by rw [aO];decide) w (Bs.of_key (hG.kn (g:=nb ρ1 0) (o:=(cL (kY k) 48)) 0)) (Bs.of_hd (c:=32) (hG.kn (g:=nb ρ7 10) (o:=(cL (hB (bT k i)) 43)) 2) (kP _) (Nat.le_refl _) (Nat.le_of_ble_eq_true rfl))))<|cR [[],[0]]<|jU (fun ρ=>(k.d+1)) (fun _=>(k.d+1)) (fun _=>(gZ (by have:=oI hsn;omega)))<|cR [[],[0]]<|cX (qC (fun _ _ w _=>rkprint_any k hk w))<|jE [[],[],[91]]) (fun ρ10=>?_)
  refine lK [(2,(pt (nb ρ1 0))),(4,(pt (nb ρ1 1))),(5,(vi 0)),(6,(.bool (!(decide (k.s=0))))),(7,(pt (nb ρ7 10))),(8,(pt (nb ρ10 11)))] [(nb ρ1 0,(cL (kY k) 48)),(nb ρ1 1,(cL (kC 0 0 0 0 0 0) 48)),(nb ρ7 10,(cL (hB (bT k i)) 43)),(nb ρ10 11,(cL (kC 0 0 (hmN k.c (hL (bT k i))) (k.d+1) ((i:Nat):Int) ((o8 k.p:Nat):Int)) 48))] ?_
  refine jJ Tryz.f41 1 [2,4,5,6,7,8,9] [vi 0] (aB (jJ Tryz.f41 1 [2,4,5,6,7,8,9,58] [.bool (!(decide (k.s=0)))] ?_))
  refine oC (!(decide (k.s=0))) (fun hb4=>?_) (fun hb4=>?_)
  ·
   rw [hb4]
   refine rS Tryz.f41 10 [4,5,6,8,9] [0,1,0,1] (fun _=>let qa:=vi (nY k.s (bT k i));[pt (nb ρ1 0),U k.s,.agg (hB (bT k i)),.tuple #[U (fO k.s (bT k i)),qa],.tuple #[U (fO k.s (bT k i)),qa],U (fO k.s (bT k i)),qa,pt (nb ρ10 11),undef,qa]) (fun _=>[(8,(bD 3 (nb ρ10 11) (cL (kC (fO k.s (bT k i)) 0 (hmN k.c (hL (bT k i))) (k.d+1) ((i:Nat):Int) ((o8 k.p:Nat):Int)) 48)))]) (cR [[],[0],[2]]<|cC (f:=77) (args:=fun ρ=> #[U k.s,.agg (hB (bT k i))]) (v:=fun ρ=>(.tuple #[U (fO k.s (bT k i)),vi (nY k.s (bT k i))])) (fun _ w=>(fun w=>sJ k.s (bT k i) hk.s (twk_lt _ _) w) w)<|jE [[],[],[],[],[3],[]]) (fun _=>?_)
   refine aA (aB (jJ Tryz.f41 2 [4,5,6,8,9,76] [vi (nY k.s (bT k i)),.bool ((nY k.s (bT k i)) != 0)] ?_))
   refine oC ((nY k.s (bT k i)) != 0) (fun hb5=>?_) (fun hb5=>?_)
   ·
    rw [hb5]
    refine sS Tryz.f41 4 [4,5,6,8] [] (fun _=>[.agg (kC 0 0 0 0 0 0),vi (nY k.s (bT k i)),undef,vi (nY k.s (bT k i))]) (fun _=>[(2,(bD 0 (nb ρ1 1) (cL (kC 0 0 0 0 0 0) 48)))]) (jE [[],[],[0],[]]) (fun _=>?_)
    refine aF (aC ?_)
    exact mR (v:=(.tuple #[.agg (kC 0 0 0 0 0 0),vi (nY k.s (bT k i))])) (fun _ hS=>⟨by rw [(ch_s1 hsn (zC hb1) (Or.inr (yF (dF hb4))) (yF (dF hb4)) (bne0 hb5)).1,(ch_s1 hsn (zC hb1) (Or.inr (yF (dF hb4))) (yF (dF hb4)) (bne0 hb5)).2]<;>rfl,hS.bel⟩)
   rw [hb5]
   refine aG (aA (aB (jJ Tryz.f41 1 [4,5,8,79] [vT] ?_)))
   refine oY ?_
   refine rS Tryz.f41 8 [4,5,8] [] (fun _=>let qa:=vi (iW (fO k.s (bT k i)));[pt (nb ρ10 11),U (fO k.s (bT k i)),.tuple #[U (dK (fO k.s (bT k i))),qa],.tuple #[U (dK (fO k.s (bT k i))),qa],U (dK (fO k.s (bT k i))),qa,jp (nb ρ10 11) 4,undef]) (fun _=>[(7,(bD 1 (nb ρ10 11) (cL (kC (fO k.s (bT k i)) (dK (fO k.s (bT k i))) (hmN k.c (hL (bT k i))) (k.d+1) ((i:Nat):Int) ((o8 k.p:Nat):Int)) 48)))]) (cR [[],[1]]<|cC (f:=70) (args:=fun ρ=> #[U (fO k.s (bT k i))]) (v:=fun ρ=>(.tuple #[U (dK (fO k.s (bT k i))),vi (iW (fO k.s (bT k i)))])) (fun _ w=>(fun w=>rE (fO k.s (bT k i)) (tsV_lt _ _) w) w)<|jE [[],[],[],[],[1]]) (fun _=>?_)
   refine aA ?_
   refine sS Tryz.f41 3 [4,5] [1,0] (fun _=>[.agg (kC (fO k.s (bT k i)) (dK (fO k.s (bT k i))) (hmN k.c (hL (bT k i))) (k.d+1) ((i:Nat):Int) ((o8 k.p:Nat):Int)),undef,vi 0]) (fun _=>[(1,(bD 0 (nb ρ1 1) (cL (kC (fO k.s (bT k i)) (dK (fO k.s (bT k i))) (hmN k.c (hL (bT k i))) (k.d+1) ((i:Nat):Int) ((o8 k.p:Nat):Int)) 48)))]) (jE [[1],[0],[]]) (fun _=>?_)
   refine aF ?_
   exact mR (v:=(.tuple #[.agg (kC (fO k.s (bT k i)) (dK (fO k.s (bT k i))) (hmN k.c (hL (bT k i))) (k.d+1) ((i:Nat):Int) ((o8 k.p:Nat):Int)),vi 0])) (fun _ hS=>⟨by rw [(ch_s0 hsn (zC hb1) (Or.inr (yF (dF hb4))) (yF (dF hb4)) (bne0' hb5)).1,(ch_s0 hsn (zC hb1) (Or.inr (yF (dF hb4))) (yF (dF hb4)) (bne0' hb5)).2]<;>rfl,hS.bel⟩)
  exact absurd ((show (!(decide (k.s=0)))=true from (aV hb3)).symm.trans hb4) (by decide)
 refine sS Tryz.f41 6 [1,2,4,5,6,23] [] (fun _=>[vu i,vF,vF,undef,undef,vF]) (fun _=>[]) (cR [[]]<|cA (fun _=>vF) (fun _=>congrArg Value.bool hb2)<|jE [[],[],[],[]]) (fun _=>?_)
 refine oN ?_
 refine aG (aA ?_)
 refine sDf Tryz.f41 [0,1,0,4,12,31,63,0,255,511,0,2047] 12 [1,2,4,5,6,7] [1,1,0,1] (fun ρ=>[jp (nb ρ1 0) 8,.slice (some ⟨nb ρ1 0,8,none⟩) (hL k.c).length 32,jp (nb ρ1 0) 4,U k.p,.slice (oa ρ 4) (hL k.p).length (nb ρ 4),vs (nb ρ 5) 2 2,.slice (oa ρ 6) ((hL k.c)++(hL k.p)).length (nb ρ 6),vu i,.slice (oa ρ 8) (((hL k.c)++(hL k.p))++leB i 4).length (nb ρ 8),.agg (hB (bT k i)),pt (nb ρ 10),undef]) (fun ρ=>[(5,(nw ρ 5 (cL #[.slice (some ⟨nb ρ1 0,8,none⟩) (hL k.c).length 32,.slice (oa ρ 4) (hL k.p).length (nb ρ 4)] 33))),(10,(nw ρ 10 (cL (hB 0) 43))),(11,(bD 82 (nb ρ 10) (cL (hB (bT k i)) 43)))]) (fun ρ=>[(4,fun w=>Fs w0 w (oa ρ 4) (nb ρ 4) (hL k.p)),(6,fun w=>Fs w0 w (oa ρ 6) (nb ρ 6) ((hL k.c)++(hL k.p))),(8,fun w=>Fs w0 w (oa ρ 8) (nb ρ 8) (((hL k.c)++(hL k.p))++leB i 4))]) (fun ρ=>(fun w=>Fs w0 w (oa ρ 4) (nb ρ 4) (hL k.p)∧Fs w0 w (oa ρ 6) (nb ρ 6) ((hL k.c)++(hL k.p))∧Fs w0 w (oa ρ 8) (nb ρ 8) (((hL k.c)++(hL k.p))++leB i 4)∧True)) (fun _=>True) (fun _ _ _ hf=>⟨⟨hf 4,hf 6,hf 8,trivial⟩,trivial⟩) (cR [[],[],[],[0]]<|cX (qB (fun _ _ w _=>oJ k.p hk.p w))<|cR [[]]<|cX (qB (fun ρ _ w hG=>join2_any (nb ρ 5) (some ⟨nb ρ1 0,8,none⟩) 32 (hL k.c) (oa ρ 4) (nb ρ 4) (hL k.p) (by simp only [aO];omega) (by rw [aO];decide) w (Kb.of_block (hG.kn (g:=nb ρ 5) (o:=(cL #[.slice (some ⟨nb ρ1 0,8,none⟩) (hL k.c).length 32,.slice (oa ρ 4) (hL k.p).length (nb ρ 4)] 33)) 42)) (Bs.of_key (hG.kn (g:=nb ρ1 0) (o:=(cL (kY k) 48)) 0)) (show Fs w0 w (oa ρ 4) (nb ρ 4) (hL k.p) from (hG.facts 4 rfl).now).1))<|cR [[]]<|cX (qB (fun ρ _ w hG=>rM (oa ρ 6) (nb ρ 6) ((hL k.c)++(hL k.p)) i (by have:=yF hb2;omega) (by simp only [List.length_append,aO];have:=yF hb2;omega) w (show Fs w0 w (oa ρ 6) (nb ρ 6) ((hL k.c)++(hL k.p)) from (hG.facts 6 rfl).now).1))<|cX (o_callP _ 71 (fun ρ=> #[.string ⟨#[108,105,103,104,116,99,108,105,101,110,116,47,115,111,102,116]⟩,.slice (oa ρ 8) (((hL k.c)++(hL k.p))++leB i 4).length (nb ρ 8)]) (fun _=>(.agg (hB (bT k i)))) (fun _ _=>(by kernel_rfl)) (fun _=>(by kernel_rfl)) (fun _ _=>(by kernel_rfl)) (fun _ _=>trivial) (fun ρ _ w hG=>(by as_aux_lemma=>(have hcall:=wK tgS (oa ρ 8) (nb ρ 8) (((hL k.c)++(hL k.p))++leB i 4) (by decide) (by simp only [List.length_append,aO,eQ];omega) w (show Fs w0 w (oa ρ 8) (nb ρ 8) (((hL k.c)++(hL k.p))++leB i 4) from (hG.facts 8 rfl).now).1;rw [twk_0 (k:=k) hb2] at hcall;exact hcall))))<|jE [[],[82]]) (fun ρ20 _=>?_)
 refine aB ?_
 refine sS Tryz.f41 2 [1,2,4,5,6,7,36] [] (fun _=>[vu i,vF]) (fun _=>[]) (cR [[]]<|cA (fun _=>vF) (fun _=>congrArg Value.bool hb2)<|cN) (fun _=>?_)
 refine oN ?_
 refine aG (aA ?_)
 refine sD Tryz.f41 [0,1,0,7,0,16,48,0,0,271,1023,0,4095] 13 [2,4,5,6,7,8] [] (fun ρ=>[jp (nb ρ1 0) 8,.slice (some ⟨nb ρ1 0,8,none⟩) (hL k.c).length 32,vs (nb ρ20 10) (hL (bT k i)).length 32,.agg (hB (hmN k.c (hL (bT k i)))),jp (nb ρ1 0) 40,vi k.d,vi (k.d+1),vu i,.agg (kY k),vu (o8 k.p),.agg (kC 0 0 (hmN k.c (hL (bT k i))) (k.d+1) ((i:Nat):Int) ((o8 k.p:Nat):Int)),pt (nb ρ 11),undef]) (fun ρ=>[(11,(nw ρ 11 (cL (kC 0 0 0 0 0 0) 48))),(12,(bD 91 (nb ρ 11) (cL (kC 0 0 (hmN k.c (hL (bT k i))) (k.d+1) ((i:Nat):Int) ((o8 k.p:Nat):Int)) 48)))]) (cR [[],[],[]]<|cX (qC (fun _ _ w hG=>rhmac_any (some ⟨nb ρ1 0,8,none⟩) 32 k.c (some ⟨nb ρ20 10,0,none⟩) 32 (hL (bT k i)) (by rw [aO];decide) w (Bs.of_key (hG.kn (g:=nb ρ1 0) (o:=(cL (kY k) 48)) 0)) (Bs.of_hd (c:=32) (hG.kn (g:=nb ρ20 10) (o:=(cL (hB (bT k i)) 43)) 2) (kP _) (Nat.le_refl _) (Nat.le_of_ble_eq_true rfl))))<|cR [[],[0]]<|jU (fun ρ=>(k.d+1)) (fun _=>(k.d+1)) (fun _=>(gZ (by have:=oI hsn;omega)))<|cR [[],[0]]<|cX (qC (fun _ _ w _=>rkprint_any k hk w))<|jE [[],[],[91]]) (fun ρ22=>?_)
 refine lK [(2,(pt (nb ρ1 0))),(4,(pt (nb ρ1 1))),(5,(vi 0)),(6,(.bool (!(decide (k.s=0))))),(7,(pt (nb ρ20 10))),(8,(pt (nb ρ22 11)))] [(nb ρ1 0,(cL (kY k) 48)),(nb ρ1 1,(cL (kC 0 0 0 0 0 0) 48)),(nb ρ20 10,(cL (hB (bT k i)) 43)),(nb ρ22 11,(cL (kC 0 0 (hmN k.c (hL (bT k i))) (k.d+1) ((i:Nat):Int) ((o8 k.p:Nat):Int)) 48))] ?_
 refine jJ Tryz.f41 1 [2,4,5,6,7,8,9] [vi 0] (aB (jJ Tryz.f41 1 [2,4,5,6,7,8,9,58] [.bool (!(decide (k.s=0)))] ?_))
 refine oC (!(decide (k.s=0))) (fun hb6=>?_) (fun hb6=>?_)
 ·
  rw [hb6]
  refine rS Tryz.f41 10 [4,5,6,8,9] [0,1,0,1] (fun _=>let qa:=vi (nY k.s (bT k i));[pt (nb ρ1 0),U k.s,.agg (hB (bT k i)),.tuple #[U (fO k.s (bT k i)),qa],.tuple #[U (fO k.s (bT k i)),qa],U (fO k.s (bT k i)),qa,pt (nb ρ22 11),undef,qa]) (fun _=>[(8,(bD 3 (nb ρ22 11) (cL (kC (fO k.s (bT k i)) 0 (hmN k.c (hL (bT k i))) (k.d+1) ((i:Nat):Int) ((o8 k.p:Nat):Int)) 48)))]) (cR [[],[0],[2]]<|cC (f:=77) (args:=fun ρ=> #[U k.s,.agg (hB (bT k i))]) (v:=fun ρ=>(.tuple #[U (fO k.s (bT k i)),vi (nY k.s (bT k i))])) (fun _ w=>(fun w=>sJ k.s (bT k i) hk.s (twk_lt _ _) w) w)<|jE [[],[],[],[],[3],[]]) (fun _=>?_)
  refine aA (aB (jJ Tryz.f41 2 [4,5,6,8,9,76] [vi (nY k.s (bT k i)),.bool ((nY k.s (bT k i)) != 0)] ?_))
  refine oC ((nY k.s (bT k i)) != 0) (fun hb7=>?_) (fun hb7=>?_)
  ·
   rw [hb7]
   refine sS Tryz.f41 4 [4,5,6,8] [] (fun _=>[.agg (kC 0 0 0 0 0 0),vi (nY k.s (bT k i)),undef,vi (nY k.s (bT k i))]) (fun _=>[(2,(bD 0 (nb ρ1 1) (cL (kC 0 0 0 0 0 0) 48)))]) (jE [[],[],[0],[]]) (fun _=>?_)
   refine aF (aC ?_)
   exact mR (v:=(.tuple #[.agg (kC 0 0 0 0 0 0),vi (nY k.s (bT k i))])) (fun _ hS=>⟨by rw [(ch_s1 hsn (zC hb1) (Or.inr (yF (dF hb6))) (yF (dF hb6)) (bne0 hb7)).1,(ch_s1 hsn (zC hb1) (Or.inr (yF (dF hb6))) (yF (dF hb6)) (bne0 hb7)).2]<;>rfl,hS.bel⟩)
  rw [hb7]
  refine aG (aA (aB (jJ Tryz.f41 1 [4,5,8,79] [vT] ?_)))
  refine oY ?_
  refine rS Tryz.f41 8 [4,5,8] [] (fun _=>let qa:=vi (iW (fO k.s (bT k i)));[pt (nb ρ22 11),U (fO k.s (bT k i)),.tuple #[U (dK (fO k.s (bT k i))),qa],.tuple #[U (dK (fO k.s (bT k i))),qa],U (dK (fO k.s (bT k i))),qa,jp (nb ρ22 11) 4,undef]) (fun _=>[(7,(bD 1 (nb ρ22 11) (cL (kC (fO k.s (bT k i)) (dK (fO k.s (bT k i))) (hmN k.c (hL (bT k i))) (k.d+1) ((i:Nat):Int) ((o8 k.p:Nat):Int)) 48)))]) (cR [[],[1]]<|cC (f:=70) (args:=fun ρ=> #[U (fO k.s (bT k i))]) (v:=fun ρ=>(.tuple #[U (dK (fO k.s (bT k i))),vi (iW (fO k.s (bT k i)))])) (fun _ w=>(fun w=>rE (fO k.s (bT k i)) (tsV_lt _ _) w) w)<|jE [[],[],[],[],[1]]) (fun _=>?_)
  refine aA ?_
  refine sS Tryz.f41 3 [4,5] [1,0] (fun _=>[.agg (kC (fO k.s (bT k i)) (dK (fO k.s (bT k i))) (hmN k.c (hL (bT k i))) (k.d+1) ((i:Nat):Int) ((o8 k.p:Nat):Int)),undef,vi 0]) (fun _=>[(1,(bD 0 (nb ρ1 1) (cL (kC (fO k.s (bT k i)) (dK (fO k.s (bT k i))) (hmN k.c (hL (bT k i))) (k.d+1) ((i:Nat):Int) ((o8 k.p:Nat):Int)) 48)))]) (jE [[1],[0],[]]) (fun _=>?_)
  refine aF ?_
  exact mR (v:=(.tuple #[.agg (kC (fO k.s (bT k i)) (dK (fO k.s (bT k i))) (hmN k.c (hL (bT k i))) (k.d+1) ((i:Nat):Int) ((o8 k.p:Nat):Int)),vi 0])) (fun _ hS=>⟨by rw [(ch_s0 hsn (zC hb1) (Or.inr (yF (dF hb6))) (yF (dF hb6)) (bne0' hb7)).1,(ch_s0 hsn (zC hb1) (Or.inr (yF (dF hb6))) (yF (dF hb6)) (bne0' hb7)).2]<;>rfl,hS.bel⟩)
 rw [hb6]
 refine rS Tryz.f41 10 [4,5,6,8,9] [0,1,0,1] (fun _=>let qa:=vi (wY k.p (bT k i));[jp (nb ρ1 0) 4,U k.p,.agg (hB (bT k i)),.tuple #[U (yS k.p (bT k i)),qa],.tuple #[U (yS k.p (bT k i)),qa],U (yS k.p (bT k i)),qa,jp (nb ρ22 11) 4,undef,qa]) (fun _=>[(8,(bD 3 (nb ρ22 11) (cL (kC 0 (yS k.p (bT k i)) (hmN k.c (hL (bT k i))) (k.d+1) ((i:Nat):Int) ((o8 k.p:Nat):Int)) 48)))]) (cR [[],[0],[2]]<|cC (f:=78) (args:=fun ρ=> #[U k.p,.agg (hB (bT k i))]) (v:=fun ρ=>(.tuple #[U (yS k.p (bT k i)),vi (wY k.p (bT k i))])) (fun _ w=>(fun w=>rtweak_any k.p (bT k i) hk.p (twk_lt _ _) w) w)<|jE [[],[],[],[],[3],[]]) (fun _=>?_)
 refine aA (aB (jJ Tryz.f41 2 [4,5,6,8,9,76] [vi (wY k.p (bT k i)),.bool ((wY k.p (bT k i)) != 0)] ?_))
 refine oC ((wY k.p (bT k i)) != 0) (fun hb8=>?_) (fun hb8=>?_)
 ·
  rw [hb8]
  refine sS Tryz.f41 4 [4,5,6,8] [] (fun _=>[.agg (kC 0 0 0 0 0 0),vi (wY k.p (bT k i)),undef,vi (wY k.p (bT k i))]) (fun _=>[(2,(bD 0 (nb ρ1 1) (cL (kC 0 0 0 0 0 0) 48)))]) (jE [[],[],[0],[]]) (fun _=>?_)
  refine aF (aC ?_)
  exact mR (v:=(.tuple #[.agg (kC 0 0 0 0 0 0),vi (wY k.p (bT k i))])) (fun _ hS=>⟨by rw [(ch_p1 hsn (zC hb1) (Or.inl (hd_f hb2)) (yT (aV hb6)) (bne0 hb8)).1,(ch_p1 hsn (zC hb1) (Or.inl (hd_f hb2)) (yT (aV hb6)) (bne0 hb8)).2]<;>rfl,hS.bel⟩)
 rw [hb8]
 refine aG (aA (aB (jJ Tryz.f41 1 [4,5,8,79] [vF] ?_)))
 refine oN ?_
 refine aG (aA ?_)
 refine sS Tryz.f41 3 [4,5] [1,0] (fun _=>[.agg (kC 0 (yS k.p (bT k i)) (hmN k.c (hL (bT k i))) (k.d+1) ((i:Nat):Int) ((o8 k.p:Nat):Int)),undef,vi 0]) (fun _=>[(1,(bD 0 (nb ρ1 1) (cL (kC 0 (yS k.p (bT k i)) (hmN k.c (hL (bT k i))) (k.d+1) ((i:Nat):Int) ((o8 k.p:Nat):Int)) 48)))]) (jE [[1],[0],[]]) (fun _=>?_)
 refine aF ?_
 exact mR (v:=(.tuple #[.agg (kC 0 (yS k.p (bT k i)) (hmN k.c (hL (bT k i))) (k.d+1) ((i:Nat):Int) ((o8 k.p:Nat):Int)),vi 0])) (fun _ hS=>⟨by rw [(ch_p0 hsn (zC hb1) (Or.inl (hd_f hb2)) (yT (aV hb6)) (bne0' hb8)).1,(ch_p0 hsn (zC hb1) (Or.inl (hd_f hb2)) (yT (aV hb6)) (bne0' hb8)).2]<;>rfl,hS.bel⟩)
theorem vJ (k:Ky) (a:Option Addr) (c:Nat) (ps:List Nat) (hk:k.Ok) (hp:∀ i∈ps,i<4294967296) (w0:World) (hf0:Is w0 .u32 a c (nI ps)):Calls Tryz.prog 25 #[.agg (kY k),.slice a (nI ps).length c] w0 (jR (.tuple #[.agg (kY (iQ k ps)),vi (nM k ps)]) w0):=by
 refine Calls.of_ok (n:=34) (F:=(fun w=>Is w .u32 a c (nI ps)∧True)) Tryz.func25 rfl rfl rfl (by simp) (hf0.pers0.and cO) ?_
 have hlen:(nI ps).length≤140737488351232:=hf0.max
 refine sS Tryz.f25 3 [1,2,4,5] [] (fun ρ=>[pt (nb ρ 0),pt (nb ρ 1),vi 0]) (fun ρ=>[(0,(nw ρ 0 (cL (kY k) 48))),(1,(nw ρ 1 (cL (kC 0 0 0 0 0 0) 48)))]) (jE [[],[],[]]) (fun ρ1=>?_)
 refine aB ?_
 refine sS Tryz.f25 3 [1,2,4,5,11] [] (fun _=>[.agg (kY k),.bool (fC k),.bool (!(fC k))]) (fun _=>[]) (cR [[0]]<|cC (fun _ w=>oQ k hk w)<|jE [[]]) (fun _=>?_)
 refine oC (!(fC k)) (fun hb1=>?_) (fun hb1=>?_)
 ·
  rw [hb1]
  refine sS Tryz.f25 3 [1,2,4,5] [] (fun _=>[.agg (kC 0 0 0 0 0 0),undef,vi 6]) (fun _=>[(1,(bD 1 (nb ρ1 1) (cL (kC 0 0 0 0 0 0) 48)))]) (jE [[],[1],[]]) (fun _=>?_)
  refine aF (aC ?_)
  exact mR (v:=(.tuple #[.agg (kC 0 0 0 0 0 0),vi 6])) (ps:=[1,1,1,1,1,1,1,1,1,1,1,1,1,1,1,1,1,1,1,1,1,1,1,1,1,1,1,1,1,1,1,1,1,1,1,1,1,1,1,1,1,1,1]) (fun _ hS=>⟨by rw [(dr_6 (dF hb1)).1,(dr_6 (dF hb1)).2];rfl,hS.bel⟩)
 rw [hb1]
 refine aG (aA (aB (jJ Tryz.f25 1 [1,2,4,5,6] [vi 0] (aI ?_))))
 refine oL (σ:=Nat × Ky) (fun ⟨j,_⟩=>[(1,(.slice a (nI ps).length c)),(2,(pt (nb ρ1 0))),(4,(pt (nb ρ1 1))),(6,(vn j))]) (fun ⟨_,x⟩=>[(nb ρ1 0,(cL (kY x) 48)),(nb ρ1 1,(cL (kC 0 0 0 0 0 0) 48))]) (fun ⟨j,_⟩=>(nI ps).length-j)
   (fun ⟨j,x⟩=>(j≤(nI ps).length)∧x.Ok∧(fC x=true)∧(dvE x (ps.drop j)=dvE k ps)∧(dvK x (ps.drop j)=dvK k ps)) (0,k) (⟨Nat.zero_le _,hk,aV hb1,rfl,rfl⟩) [] ?_
 rintro ⟨j,x⟩ ⟨hj,hx,hsx,hE,hK⟩
 change Ok Tryz.prog _ _ 34 [(1,(.slice a (nI ps).length c)),(2,(pt (nb ρ1 0))),(4,(pt (nb ρ1 1))),(6,(vn j))] _ [(nb ρ1 0,(cL (kY x) 48)),(nb ρ1 1,(cL (kC 0 0 0 0 0 0) 48))] (fun w=>Is w .u32 a c (nI ps)∧True)
 refine aB (jJ Tryz.f25 4 [1,2,4,6,16] [vn j,.slice a (nI ps).length c,vn (nI ps).length,.bool (decide (((j:Nat):Int)<(((nI ps).length:Nat):Int)))] ?_)
 refine oC (decide (((j:Nat):Int)<(((nI ps).length:Nat):Int))) (fun hb2=>?_) (fun hb2=>?_)
 ·
  rw [hb2]
  have:=yT hb2
  refine aG (aA (aB (aI ?_)))
  refine sD Tryz.f25 [0,0,0,6,14,31,63,127,127,0,767,2047] 12 [1,2,4,6,7,8] [] (fun ρ=>let qa:=vi (chE x (ps.getD j 0));let qb:Value:=.agg (kY (chK x (ps.getD j 0)));[.agg (kY x),.slice a (nI ps).length c,vn j,.pointer (fK a j),vu (ps.getD j 0),.tuple #[qb,qa],.tuple #[qb,qa],qb,qa,pt (nb ρ 9),undef,qa]) (fun ρ=>[(9,(nw ρ 9 (cL (kC 0 0 0 0 0 0) 48))),(10,(bD 74 (nb ρ 9) (cL (kY (chK x (ps.getD j 0))) 48)))]) (cR [[0],[],[]]<|cX (qF (fun _ _ _ hG=>o6 (k:=.i64) Tryz.underlying49 Tryz.sizeOf41 hG.fn.1 rfl (show ((j:Nat):Int)=((j:Nat):Int) from rfl) (show j<(nI ps).length from (by omega))))<|cX (qF (v:=fun ρ=>(vu (ps.getD j 0))) (fun _ _ _ hG=>(rG Tryz.isAgg41 hG.fn.1 (show j<(nI ps).length from (by omega))).trans (by rw [yQ])))<|cX (qC (fun _ _ w _=>rstep_any x (ps.getD j 0) hx (get_all hp (by decide) j) hsx w))<|jE [[],[],[],[],[74],[]]) (fun _=>?_)
  refine aB (jJ Tryz.f25 2 [1,2,4,6,7,8,29] [vi (chE x (ps.getD j 0)),.bool ((chE x (ps.getD j 0)) != 0)] ?_)
  refine oC ((chE x (ps.getD j 0)) != 0) (fun hb3=>?_) (fun hb3=>?_)
  ·
   rw [hb3]
   refine sS Tryz.f25 4 [1,2,4,5,6,7] [] (fun _=>let qa:=vi (chE x (ps.getD j 0));[.agg (kC 0 0 0 0 0 0),qa,undef,qa]) (fun _=>[(2,(bD 1 (nb ρ1 1) (cL (kC 0 0 0 0 0 0) 48)))]) (jE [[],[],[1],[]]) (fun _=>?_)
   refine aF (aC (aP (aC (aC (aP (aC ?_))))))
   exact mR (v:=(.tuple #[.agg (kC 0 0 0 0 0 0),vi (chE x (ps.getD j 0))])) (ps:=[1,1,1,1,1,1,1,1,1,1,1,1,1,1,1,1,1,1,1,1,1,1,1,1,1,1,1,1,1,1,1,1,1,1,1,1,1,1,1,1,1,1,1]) (fun _ hS=>⟨by rw [(dv_fail (aV hb1) hsx (by have:=fZ ps;omega) hE hK hb3).1,(dv_fail (aV hb1) hsx (by have:=fZ ps;omega) hE hK hb3).2];rfl,hS.bel⟩)
  rw [hb3]
  refine aG (aA ?_)
  refine rS Tryz.f25 2 [1,2,4,6] [1,1,0] (fun _=>[.agg (kY (chK x (ps.getD j 0))),undef]) (fun _=>[(1,(bD 0 (nb ρ1 0) (cL (kY (chK x (ps.getD j 0))) 48)))]) (jE [[2],[0]]) (fun _=>?_)
  refine aJ (aA ?_)
  refine rS Tryz.f25 3 [1,2,4,6] [] (fun _=>[vn j,vn (j+1),vn (j+1)]) (fun _=>[]) (cR [[]]<|jW (fun ρ=>(((j:Nat):Int)+1)) (fun _=>(j+1)) (fun _=>(aW j 1 (by omega)))<|jE [[]]) (fun _=>?_)
  exact mN (j+1,chK x (ps.getD j 0)) (by show (nI ps).length-(j+1)<(nI ps).length-j;omega) (⟨(by omega),chK_ok _ _ (get_all hp (by decide) j),(wU hsx (by have:=fZ ps;omega) hE hK hb3).1,(wU hsx (by have:=fZ ps;omega) hE hK hb3).2.1,(wU hsx (by have:=fZ ps;omega) hE hK hb3).2.2⟩) []
 rw [hb2]
 refine bF (aN (aN (aT (aA ?_))))
 refine sS Tryz.f25 3 [4,5] [0,1] (fun _=>[.agg (kY x),undef,vi 0]) (fun _=>[(1,(bD 1 (nb ρ1 1) (cL (kY x) 48)))]) (jE [[0],[1],[]]) (fun _=>?_)
 refine aF ?_
 exact mR (v:=(.tuple #[.agg (kY x),vi 0])) (fun _ hS=>⟨by rw [(dv_done (aV hb1) (by have:=fZ ps;have:=yF hb2;omega) hE hK).1,(dv_done (aV hb1) (by have:=fZ ps;have:=yF hb2;omega) hE hK).2]<;>rfl,hS.bel⟩)
theorem rdkeys_any (a:Option Addr) (c:Nat) (ts:List bW) (z:Int) (w0:World) (hf0:bM w0 a c ts):Calls Tryz.prog 10 #[.slice a ts.length c,vi z] w0 (fun ε w'=>∃ α κ,ε=.returned (.tuple #[.slice α (gV ts z).length κ,.int .i64 (kZ ts z)])∧jG w0 w'∧dL (fun b=>b<w0.heap.size) (fun w=>Us w α κ (gV ts z)) w'):=by
 refine Calls.of_ok (n:=73) (F:=(fun w=>bM w a c ts∧True)) Tryz.func10 rfl rfl rfl (by simp) (hf0.pers0.and cO) ?_
 have hlen:ts.length≤1000000:=hf0.max
 have ho:mP ts:=hf0.oks
 refine jJ Tryz.f10 2 [0,1,4,5] [vz,vi 0] (aB ?_)
 refine sS Tryz.f10 3 [0,1,4,5,15] [] (fun _=>[.slice a ts.length c,.bool (xW ts),.bool (!(xW ts))]) (fun _=>[]) (cR [[]]<|cX (qC (fun _ _ w hG=>rdvalid_any a c ts w hG.fn.1))<|jE [[]]) (fun _=>?_)
 refine oC (!(xW ts)) (fun hb1=>?_) (fun hb1=>?_)
 ·
  rw [hb1]
  refine jJ Tryz.f10 2 [0,1,4,5] [vz,vi 260] (aF (aC (mD [(0,(.slice a ts.length c)),(1,(vi z)),(4,vz),(5,(vi 260))] [] ?_)))
  exact mR (v:=(.tuple #[vz,vi 260])) (fun _ hS=>(by rw [(ky_bad (z:=z) (dF hb1)).1,(ky_bad (z:=z) (dF hb1)).2];exact ⟨none,0,rfl,hS.bel,dB (fun _=>Us.nil)⟩))
 rw [hb1]
 refine aG (aA (aB ?_))
 rcases Bool.eq_false_or_eq_true (decide (z<0)) with hb2 | hb2
 ·
  refine sS Tryz.f10 6 [0,1,4,5,21] [] (fun _=>[vi z,vT,vT,undef,undef,vT]) (fun _=>[]) (cR [[]]<|cA (fun _=>vT) (fun _=>congrArg Value.bool hb2)<|jE [[],[],[],[]]) (fun _=>?_)
  refine oY ?_
  refine jJ Tryz.f10 2 [0,1,4,5] [vz,vi 5] (aF (aC (mD [(0,(.slice a ts.length c)),(1,(vi z)),(4,vz),(5,(vi 5))] [] ?_)))
  exact mR (v:=(.tuple #[vz,vi 5])) (fun _ hS=>(by rw [(vC (aV hb1) (by have:=yT hb2;omega)).1,(vC (aV hb1) (by have:=yT hb2;omega)).2];exact ⟨none,0,rfl,hS.bel,dB (fun _=>Us.nil)⟩))
 refine sS Tryz.f10 6 [0,1,4,5,21] [] (fun _=>let qa:Value:=.bool (decide (1000≤z));[vi z,vF,vF,vi z,qa,qa]) (fun _=>[]) (cR [[]]<|cA (fun _=>vF) (fun _=>congrArg Value.bool hb2)<|jE [[],[],[],[]]) (fun _=>?_)
 refine oC (decide (1000≤z)) (fun hb3=>?_) (fun hb3=>?_)
 ·
  rw [hb3]
  refine jJ Tryz.f10 2 [0,1,4,5] [vz,vi 5] (aF (aC (mD [(0,(.slice a ts.length c)),(1,(vi z)),(4,vz),(5,(vi 5))] [] ?_)))
  exact mR (v:=(.tuple #[vz,vi 5])) (fun _ hS=>(by rw [(vC (aV hb1) (by have:=yF hb2;have:=yT hb3;omega)).1,(vC (aV hb1) (by have:=yF hb2;have:=yT hb3;omega)).2];exact ⟨none,0,rfl,hS.bel,dB (fun _=>Us.nil)⟩))
 rw [hb3]
 have:=yF hb3
 refine aG (aA (jJ Tryz.f10 1 [0,1,4,5,6] [vz] (aB (jJ Tryz.f10 1 [0,1,4,5,6,7] [vi 0] (aI ?_)))))
 refine oL (σ:=Nat ⊕ (Nat × Nat × (List Nat) × (Array Value) × Nat)) (fun s=>match s with | Sum.inl i=>[(0,(.slice a ts.length c)),(1,(vi z)),(6,vz),(7,(vn i))] | Sum.inr ⟨i,q,N,_,κ⟩=>[(0,(.slice a ts.length c)),(1,(vi z)),(6,(vs q N.length κ)),(7,(vn i))]) (fun s=>match s with | Sum.inl _=>[] | Sum.inr ⟨_,q,_,C,_⟩=>[(q,(cL C 39))]) (fun s=>match s with | Sum.inl i=>ts.length-i | Sum.inr ⟨i,_,_,_,_⟩=>ts.length-i)
   (fun s=>match s with | Sum.inl i=>(i≤ts.length)∧(([]:List Nat)++xE z.toNat (aK (ts.drop i))=xE z.toNat (aK ts))∧(uU z.toNat (aK (ts.drop i))=uU z.toNat (aK ts))∧True | Sum.inr ⟨i,_,N,C,κ⟩=>(i≤ts.length)∧(N++xE z.toNat (aK (ts.drop i))=xE z.toNat (aK ts))∧(uU z.toNat (aK (ts.drop i))=uU z.toNat (aK ts))∧(kU.A C N κ)∧(∀ n∈N,n<M)) (Sum.inl 0) (⟨Nat.zero_le _,rfl,rfl,trivial⟩) [] ?_
 rintro (i | ⟨i,q,N,C,κ⟩)
 ·
  rintro ⟨hi,hN0,hE0,hnil0⟩
  change Ok Tryz.prog _ _ 73 [(0,(.slice a ts.length c)),(1,(vi z)),(6,vz),(7,(vn i))] _ [] (fun w=>bM w a c ts∧True)
  refine aB (jJ Tryz.f10 4 [0,1,6,7,25] [vn i,.slice a ts.length c,vn ts.length,.bool (decide (((i:Nat):Int)<((ts.length:Nat):Int)))] ?_)
  refine oC (decide (((i:Nat):Int)<((ts.length:Nat):Int))) (fun hb4=>?_) (fun hb4=>?_)
  ·
   rw [hb4]
   have:=yT hb4
   have:=ho.klen hf0 i
   refine aG (aA (aB (aI (jJ Tryz.f10 1 [0,1,6,7,8] [vi 0] (aI ?_)))))
   refine oL (σ:=Nat ⊕ (Nat × Nat × (List Nat) × (Array Value) × Nat)) (fun s=>match s with | Sum.inl j=>[(0,(.slice a ts.length c)),(1,(vi z)),(6,vz),(7,(vn i)),(8,(vn j))] | Sum.inr ⟨j,q,N,_,κ⟩=>[(0,(.slice a ts.length c)),(1,(vi z)),(6,(vs q N.length κ)),(7,(vn i)),(8,(vn j))]) (fun s=>match s with | Sum.inl _=>[] | Sum.inr ⟨_,q,_,C,_⟩=>[(q,(cL C 39))]) (fun s=>match s with | Sum.inl j=>(gT ts i).ks.length-j | Sum.inr ⟨j,_,_,_,_⟩=>(gT ts i).ks.length-j)
     (fun s=>match s with | Sum.inl j=>(j≤(gT ts i).ks.length)∧(([]:List Nat)++xE z.toNat ((gT ts i).ks.drop j++aK (ts.drop (i+1)))=xE z.toNat (aK ts))∧(uU z.toNat ((gT ts i).ks.drop j++aK (ts.drop (i+1)))=uU z.toNat (aK ts))∧True | Sum.inr ⟨j,_,N,C,κ⟩=>(j≤(gT ts i).ks.length)∧(N++xE z.toNat ((gT ts i).ks.drop j++aK (ts.drop (i+1)))=xE z.toNat (aK ts))∧(uU z.toNat ((gT ts i).ks.drop j++aK (ts.drop (i+1)))=uU z.toNat (aK ts))∧(kU.A C N κ)∧(∀ n∈N,n<M)) (Sum.inl 0) (⟨Nat.zero_le _,kn_in (show i<ts.length from (by have:=yF hb2;omega)) hN0,ke_in (show i<ts.length from (by have:=yF hb2;omega)) hE0,trivial⟩) [] ?_
   rintro (j | ⟨j,q,N,C,κ⟩)
   ·
    rintro ⟨hj,hN,hE,hnil⟩
    change Ok Tryz.prog _ _ 73 [(0,(.slice a ts.length c)),(1,(vi z)),(6,vz),(7,(vn i)),(8,(vn j))] _ [] (fun w=>bM w a c ts∧True)
    refine aB ?_
    refine sS Tryz.f10 8 [0,1,6,7,8,35] [] (fun _=>[vn j,.slice a ts.length c,vn i,.pointer (fK a (i*36)),.pointer (fK a (i*36+35)),.slice (gT ts i).ka (gT ts i).ks.length (gT ts i).kc,vn (gT ts i).ks.length,.bool (decide (((j:Nat):Int)<(((gT ts i).ks.length:Nat):Int)))]) (fun _=>[]) (cR [[],[],[]]<|cX (qF (fun _ _ _ hG=>bM.idx (k:=.i64) Tryz.underlying24 Tryz.sizeOf46 hG.fn.1 rfl (show ((i:Nat):Int)=((i:Nat):Int) from rfl) (show i<ts.length from (by have:=yF hb2;omega))))<|cX (jF (fun _=>Instr.fieldAt 46 (.pointer (fK a (i*36))) 4) (fun _=>(.pointer (fK a (i*36+35)))) (fun _ _ _ hG=>uH (o:=35) (k:=i*36) Tryz.underlying46 rfl rfl rfl Tryz.sizeOf44 (hG.fn.1.pos (show i<ts.length from (by have:=yF hb2;omega))).1 (hG.fn.1.pos (show i<ts.length from (by have:=yF hb2;omega))).2) (fun _ _ _ _=>cO))<|cX (qF (fun _ _ _ hG=>bM.ld (v:=(.slice (gT ts i).ka (gT ts i).ks.length (gT ts i).kc)) (i:=i) (j:=35) Tryz.isAgg44 hG.fn.1 (show i<ts.length from (by have:=yF hb2;omega)) (by decide) (by kernel_rfl)))<|jE [[],[]]) (fun _=>?_)
    refine oC (decide (((j:Nat):Int)<(((gT ts i).ks.length:Nat):Int))) (fun hb5=>?_) (fun hb5=>?_)
    ·
     rw [hb5]
     have:=yT hb5
     refine aG (aA (aB (aI ?_)))
     refine sS Tryz.f10 10 [0,1,6,7,8,9] [] (fun ρ=>[.slice a ts.length c,vn i,.pointer (fK a (i*36)),.pointer (fK a (i*36+35)),.slice (gT ts i).ka (gT ts i).ks.length (gT ts i).kc,vn j,.pointer (fK (gT ts i).ka (j*45)),.agg (dO.row (gK (gT ts i).ks j)),pt (nb ρ 8),undef]) (fun ρ=>[(8,(nw ρ 8 (cL (kM 0 0 0 0 0 0 vz vF) 51))),(9,(bD 64 (nb ρ 8) (cL (dO.row (gK (gT ts i).ks j)) 51)))]) (cR [[],[]]<|cX (qF (fun _ _ _ hG=>bM.idx (k:=.i64) Tryz.underlying24 Tryz.sizeOf46 hG.fn.1 rfl (show ((i:Nat):Int)=((i:Nat):Int) from rfl) (show i<ts.length from (by have:=yF hb2;omega))))<|cX (jF (fun _=>Instr.fieldAt 46 (.pointer (fK a (i*36))) 4) (fun _=>(.pointer (fK a (i*36+35)))) (fun _ _ _ hG=>uH (o:=35) (k:=i*36) Tryz.underlying46 rfl rfl rfl Tryz.sizeOf44 (hG.fn.1.pos (show i<ts.length from (by have:=yF hb2;omega))).1 (hG.fn.1.pos (show i<ts.length from (by have:=yF hb2;omega))).2) (fun _ _ _ _=>cO))<|cX (qF (fun _ _ _ hG=>bM.ld (v:=(.slice (gT ts i).ka (gT ts i).ks.length (gT ts i).kc)) (i:=i) (j:=35) Tryz.isAgg44 hG.fn.1 (show i<ts.length from (by have:=yF hb2;omega)) (by decide) (by kernel_rfl)))<|cR [[]]<|cX (qF (fun _ _ _ hG=>oG.idx (k:=.i64) Tryz.underlying44 Tryz.sizeOf51 (hG.fn.1.sub _ (fA (show i<ts.length from (by have:=yF hb2;omega)))) rfl (show ((j:Nat):Int)=((j:Nat):Int) from rfl) (show j<(gT ts i).ks.length from (by have:=yF hb2;omega))))<|cX (qF (fun _ _ _ hG=>oG.ldA (i:=j) Tryz.isAgg51 Tryz.sizeOf51 (hG.fn.1.sub _ (fA (show i<ts.length from (by have:=yF hb2;omega)))) (show j<(gT ts i).ks.length from (by have:=yF hb2;omega))))<|jE [[],[64]]) (fun ρ13=>?_)
     refine okJ2 (σ:=(Option Addr) × Nat × (List Nat)) (fun ⟨pa,pc,pq⟩=>[(0,(.slice a ts.length c)),(1,(vi z)),(6,vz),(7,(vn i)),(8,(vn j)),(9,(pt (nb ρ13 8))),(10,(.slice pa (nI pq).length pc))]) (fun ⟨_,_,_⟩=>[(nb ρ13 8,(cL (dO.row (gK (gT ts i).ks j)) 51))]) (fun ⟨pa,pc,pq⟩=>(fun w=>bM w a c ts∧Is w .u32 pa pc (nI pq)∧True)) (fun ⟨_,_,pq⟩=>((gK (gT ts i).ks j).ix z.toNat=pq)∧(∀ x∈pq,x<4294967296)) ?_ ?_
     ·
      rintro ⟨pa,pc,pq⟩ ⟨hq,hq32⟩
      change Ok Tryz.prog _ _ 73 [(0,(.slice a ts.length c)),(1,(vi z)),(6,vz),(7,(vn i)),(8,(vn j)),(9,(pt (nb ρ13 8))),(10,(.slice pa (nI pq).length pc))] _ [(nb ρ13 8,(cL (dO.row (gK (gT ts i).ks j)) 51))] (fun w=>bM w a c ts∧Is w .u32 pa pc (nI pq)∧True)
      refine sS Tryz.f10 10 [0,1,6,7,8,11,12] [0,1] (fun ρ=>let qa:=vi (nM (gK (gT ts i).ks j).k pq);let qb:Value:=.agg (kY (iQ (gK (gT ts i).ks j).k pq));[pt (nb ρ13 8),.agg (kY (gK (gT ts i).ks j).k),.slice pa (nI pq).length pc,.tuple #[qb,qa],.tuple #[qb,qa],qb,qa,pt (nb ρ 7),undef,qa]) (fun ρ=>[(7,(nw ρ 7 (cL (kC 0 0 0 0 0 0) 48))),(8,(bD 57 (nb ρ 7) (cL (kY (iQ (gK (gT ts i).ks j).k pq)) 48)))]) (cR [[],[0],[]]<|cX (qC (fun _ _ w hG=>vJ (gK (gT ts i).ks j).k pa pc pq (ho.gK i j).k hq32 w hG.fn.2.1))<|jE [[],[],[],[],[57],[]]) (fun ρ14=>?_)
      refine aB (jJ Tryz.f10 2 [0,1,6,7,8,11,12,65] [vi (nM (gK (gT ts i).ks j).k pq),.bool ((nM (gK (gT ts i).ks j).k pq) != 0)] ?_)
      refine oC ((nM (gK (gT ts i).ks j).k pq) != 0) (fun hb6=>?_) (fun hb6=>?_)
      ·
       rw [hb6]
       refine jJ Tryz.f10 3 [0,1,4,5,6,7,8,11] (let qa:=vi (nM (gK (gT ts i).ks j).k pq);[qa,vz,qa]) (aF (aC (aP (aC (aC (aP (aP (aC (aC (aP (aC (mD [(0,(.slice a ts.length c)),(1,(vi z)),(4,vz),(5,(vi (nM (gK (gT ts i).ks j).k pq))),(6,vz),(7,(vn i)),(8,(vn j)),(11,(pt (nb ρ14 7)))] [(nb ρ14 7,(cL (kY (iQ (gK (gT ts i).ks j).k pq)) 48))] ?_))))))))))))
       exact mR (v:=(.tuple #[vz,vi (nM (gK (gT ts i).ks j).k pq)])) (fun _ hS=>(by rw [(pI (aV hb1) hb2 hb3 (l7 (show j<(gT ts i).ks.length from (by have:=yF hb2;omega)) hq hb6 hE) hb6).1,(pI (aV hb1) hb2 hb3 (l7 (show j<(gT ts i).ks.length from (by have:=yF hb2;omega)) hq hb6 hE) hb6).2];exact ⟨none,0,rfl,hS.bel,dB (fun _=>Us.nil)⟩))
      rw [hb6]
      refine aG (aA ?_)
      refine rS Tryz.f10 6 [0,1,6,7,8] [0,0,1] (fun ρ=>let qa:=vs (nb ρ 4) ([(iQ (gK (gT ts i).ks j).k pq).p]).length (([(iQ (gK (gT ts i).ks j).k pq).p]).length+aZ ρ 4);[vz,jp (nb ρ14 7) 4,U (iQ (gK (gT ts i).ks j).k pq).p,vs (nb ρ 3) 1 1,qa,qa]) (fun ρ=>[(3,(nw ρ 3 (cL (cU (iQ (gK (gT ts i).ks j).k pq).p) 39))),(4,(nw ρ 4 (cL ((kU.r ([(iQ (gK (gT ts i).ks j).k pq).p])).toArray++Builtin.zeroCells (Value.cells (U 0)) (aZ ρ 4)) 39)))]) (cR [[],[],[0],[]]<|cX (qN (fun _ ζ=>(vs (ζ.headD 0) ([(iQ (gK (gT ts i).ks j).k pq).p]).length (([(iQ (gK (gT ts i).ks j).k pq).p]).length+ζ.tail.headD 0))) (fun _ ζ=>(cL ((kU.r ([(iQ (gK (gT ts i).ks j).k pq).p])).toArray++Builtin.zeroCells (Value.cells (U 0)) (ζ.tail.headD 0)) 39)) (fun ρ _ _ hG=>appG_nil (K:=kU) (ty:=29) (us:=[(iQ (gK (gT ts i).ks j).k pq).p]) Tryz.underlying29 (dA (sz:=4) (b:=32) (z:=(U 0)) (by kernel_rfl) rfl) (src_u1 Tryz.underlying29 (hG.kn (g:=nb ρ 3) (o:=(cL (cU (iQ (gK (gT ts i).ks j).k pq).p) 39)) 25)) (Nat.le_of_ble_eq_true rfl) (Nat.le_of_ble_eq_true rfl) (by decide)))<|jE [[]]) (fun ρ17=>?_)
      refine aJ (aA ?_)
      refine rS Tryz.f10 3 [0,1,6,7,8] [] (fun _=>[vn j,vn (j+1),vn (j+1)]) (fun _=>[]) (cR [[]]<|jW (fun ρ=>(((j:Nat):Int)+1)) (fun _=>(j+1)) (fun _=>(aW j 1 (by have:=yF hb2;omega)))<|jE [[]]) (fun _=>?_)
      refine nD (fun w=>bM w a c ts∧True) (fun w hF=>⟨hF.1,trivial⟩) ?_
      exact mN (Sum.inr (j+1,nb ρ17 4,[(iQ (gK (gT ts i).ks j).k pq).p],(kU.r ([(iQ (gK (gT ts i).ks j).k pq).p])).toArray++Builtin.zeroCells (Value.cells (U 0)) (aZ ρ17 4),([(iQ (gK (gT ts i).ks j).k pq).p]).length+aZ ρ17 4)) (by show (gT ts i).ks.length-(j+1)<(gT ts i).ks.length-j;have:=yF hb2;omega) (⟨(by have:=yF hb2;omega),wV (show j<(gT ts i).ks.length from (by have:=yF hb2;omega)) hq hN,xJ (show j<(gT ts i).ks.length from (by have:=yF hb2;omega)) hq hb6 hE,RowK.A.fresh (K:=kU) (z:=(U 0)) rfl ([(iQ (gK (gT ts i).ks j).k pq).p]) (aZ ρ17 4),(fun n hn=>by rw [List.mem_singleton.1 hn];exact (yR (ho.gK i j).k hq32).p)⟩) []
     intro J1
     refine iZ Tryz.f10 5 [0,1,6,7,8,9,10] [] (fun ρ=>let qa:=vs (nb ρ 3) (nI (([]:List Nat)++(gK (gT ts i).ks j).ps)).length (aZ ρ 3);[vs (nb ρ 0) 0 0,jp (nb ρ13 8) 43,.slice (gK (gT ts i).ks j).pa (nI (gK (gT ts i).ks j).ps).length (gK (gT ts i).ks j).pc,qa,qa]) (fun ρ=>[(0,(nw ρ 0 (cL #[] 41))),(3,(bD 1 (nb ρ 3) (cL (oc ρ 3) 41)))]) (fun ρ=>[(3,fun w=>kI.A (oc ρ 3) (([]:List Nat)++(gK (gT ts i).ks j).ps) (aZ ρ 3))]) (fun _=>(fun w=>bM w a c ts∧True)) (fun ρ=>kI.A (oc ρ 3) (([]:List Nat)++(gK (gT ts i).ks j).ps) (aZ ρ 3)) (fun _ _ hF hf=>⟨hF,hf 3⟩) (cR [[],[],[0]]<|cX (qM 1 (fun ρ _ _ hG hg=>lT (ty:=49) (g:=nb ρ 0) (ts:=([]:List Nat)) (us:=(gK (gT ts i).ks j).ps) Tryz.underlying49 (dA (sz:=1) (b:=4) (z:=(.int .u32 0)) (by kernel_rfl) rfl) RowK.A.empty (src_is Tryz.underlying49 ((hG.fn.1.sub _ (fA (show i<ts.length from (by have:=yF hb2;omega)))).sub _ (nU (show j<(gT ts i).ks.length from (by have:=yF hb2;omega))))) (by have:=jC (aV hb1) (show i<ts.length from (by have:=yF hb2;omega)) (show j<(gT ts i).ks.length from (by have:=yF hb2;omega));simp only [List.length_nil];omega) (by decide) hg))<|jE [[]]) (fun ρ19 ap19_3=>?_)
     refine aB (jM Tryz.f10 2 [0,1,6,7,8,9,10,51] [] [jp (nb ρ13 8) 44,.bool (gK (gT ts i).ks j).wd] [[],[0]] ?_)
     refine oC (gK (gT ts i).ks j).wd (fun hb7=>?_) (fun hb7=>?_)
     ·
      rw [hb7]
      refine rSf Tryz.f10 6 [0,1,6,7,8,9,10] [1,1,0] (fun ρ=>let qa:=vs (nb ρ 4) (nI ((([]:List Nat)++(gK (gT ts i).ks j).ps)++([z.toNat]))).length (aZ ρ 4);[vs (nb ρ19 3) (nI (([]:List Nat)++(gK (gT ts i).ks j).ps)).length (aZ ρ19 3),vi z,vu z.toNat,vs (nb ρ 3) 1 1,qa,qa]) (fun ρ=>[(3,(nw ρ 3 (cL #[vu z.toNat] 41))),(4,(bD 1 (nb ρ 4) (cL (oc ρ 4) 41)))]) (fun ρ=>[(4,fun w=>kI.A (oc ρ 4) ((([]:List Nat)++(gK (gT ts i).ks j).ps)++([z.toNat])) (aZ ρ 4))]) (fun _=>(fun w=>bM w a c ts∧True)) (fun ρ=>kI.A (oc ρ 4) ((([]:List Nat)++(gK (gT ts i).ks j).ps)++([z.toNat])) (aZ ρ 4)) (fun _ _ hF hf=>⟨hF,hf 4⟩) (cR [[],[]]<|cA (fun _=>(vu z.toNat)) (fun _=>jN (u32Z hb2 hb3))<|cR [[]]<|cX (qM 1 (fun ρ _ _ hG hg=>lT (ty:=49) (g:=nb ρ19 3) (ts:=([]:List Nat)++(gK (gT ts i).ks j).ps) (us:=[z.toNat]) Tryz.underlying49 (dA (sz:=1) (b:=4) (z:=(.int .u32 0)) (by kernel_rfl) rfl) ap19_3 (tJ Tryz.underlying49 (hG.kn (g:=nb ρ 3) (o:=(cL #[vu z.toNat] 41)) 26)) (by have:=jC (aV hb1) (show i<ts.length from (by have:=yF hb2;omega)) (show j<(gT ts i).ks.length from (by have:=yF hb2;omega));simp only [List.length_append,List.length_cons,List.length_nil];omega) (by decide) hg))<|jE [[]]) (fun ρ21 ap21_4=>?_)
      refine aA ?_
      refine lK [(0,(.slice a ts.length c)),(1,(vi z)),(6,vz),(7,(vn i)),(8,(vn j)),(9,(pt (nb ρ13 8))),(10,(vs (nb ρ21 4) (nI ((([]:List Nat)++(gK (gT ts i).ks j).ps)++([z.toNat]))).length (aZ ρ21 4)))] [(nb ρ13 8,(cL (dO.row (gK (gT ts i).ks j)) 51)),(nb ρ21 4,(cL (oc ρ21 4) 41))] ?_
      exact okE J1 (some ⟨nb ρ21 4,0,none⟩,aZ ρ21 4,(([]:List Nat)++(gK (gT ts i).ks j).ps)++[z.toNat]) (⟨ix_d hb7,(fun x hx=>(List.mem_append.1 hx).elim ((ho.gK i j).ps x) (fun hx=>by rw [List.mem_singleton.1 hx];exact (z32n hb2 hb3)))⟩) (fun w hS=>(hS.frozI (e:=41) (fr:=(0,0)) 1 ap21_4 (by have:=jC (aV hb1) (show i<ts.length from (by have:=yF hb2;omega)) (show j<(gT ts i).ks.length from (by have:=yF hb2;omega));simp only [List.length_append,List.length_cons,List.length_nil];omega) []).weaken (fun w hF=>⟨hF.2.1,hF.1,trivial⟩))
     rw [hb7]
     refine aG (aA ?_)
     refine lK [(0,(.slice a ts.length c)),(1,(vi z)),(6,vz),(7,(vn i)),(8,(vn j)),(9,(pt (nb ρ13 8))),(10,(vs (nb ρ19 3) (nI (([]:List Nat)++(gK (gT ts i).ks j).ps)).length (aZ ρ19 3))),(51,vF)] [(nb ρ13 8,(cL (dO.row (gK (gT ts i).ks j)) 51)),(nb ρ19 3,(cL (oc ρ19 3) 41))] ?_
     exact okE J1 (some ⟨nb ρ19 3,0,none⟩,aZ ρ19 3,([]:List Nat)++(gK (gT ts i).ks j).ps) (⟨ix_c hb7,(ho.gK i j).ps⟩) (fun w hS=>(hS.frozI (e:=41) (fr:=(0,0)) 1 ap19_3 (by have:=jC (aV hb1) (show i<ts.length from (by have:=yF hb2;omega)) (show j<(gT ts i).ks.length from (by have:=yF hb2;omega));simp only [List.length_append,List.length_nil];omega) []).weaken (fun w hF=>⟨hF.2.1,hF.1,trivial⟩))
    rw [hb5]
    have:=yF hb5
    refine bF (aN (aN (aT (aJ (aA ?_)))))
    refine rS Tryz.f10 3 [0,1,6,7] [] (fun _=>[vn i,vn (i+1),vn (i+1)]) (fun _=>[]) (cR [[]]<|jW (fun ρ=>(((i:Nat):Int)+1)) (fun _=>(i+1)) (fun _=>(aW i 1 (by have:=yF hb2;omega)))<|jE [[]]) (fun _=>?_)
    exact mN (Sum.inl (i+1)) (by show ts.length-(i+1)<ts.length-i;have:=yF hb2;omega) (⟨(by have:=yF hb2;omega),kn_out (by have:=yF hb2;omega) hN,ke_out (by have:=yF hb2;omega) hE,trivial⟩) []
   rintro ⟨hj,hN,hE,hA,hM⟩
   change Ok Tryz.prog _ _ 73 [(0,(.slice a ts.length c)),(1,(vi z)),(6,(vs q N.length κ)),(7,(vn i)),(8,(vn j))] _ [(q,(cL C 39))] (fun w=>bM w a c ts∧True)
   refine aB ?_
   refine sS Tryz.f10 8 [0,1,6,7,8,35] [] (fun _=>[vn j,.slice a ts.length c,vn i,.pointer (fK a (i*36)),.pointer (fK a (i*36+35)),.slice (gT ts i).ka (gT ts i).ks.length (gT ts i).kc,vn (gT ts i).ks.length,.bool (decide (((j:Nat):Int)<(((gT ts i).ks.length:Nat):Int)))]) (fun _=>[]) (cR [[],[],[]]<|cX (qF (fun _ _ _ hG=>bM.idx (k:=.i64) Tryz.underlying24 Tryz.sizeOf46 hG.fn.1 rfl (show ((i:Nat):Int)=((i:Nat):Int) from rfl) (show i<ts.length from (by have:=yF hb2;omega))))<|cX (jF (fun _=>Instr.fieldAt 46 (.pointer (fK a (i*36))) 4) (fun _=>(.pointer (fK a (i*36+35)))) (fun _ _ _ hG=>uH (o:=35) (k:=i*36) Tryz.underlying46 rfl rfl rfl Tryz.sizeOf44 (hG.fn.1.pos (show i<ts.length from (by have:=yF hb2;omega))).1 (hG.fn.1.pos (show i<ts.length from (by have:=yF hb2;omega))).2) (fun _ _ _ _=>cO))<|cX (qF (fun _ _ _ hG=>bM.ld (v:=(.slice (gT ts i).ka (gT ts i).ks.length (gT ts i).kc)) (i:=i) (j:=35) Tryz.isAgg44 hG.fn.1 (show i<ts.length from (by have:=yF hb2;omega)) (by decide) (by kernel_rfl)))<|jE [[],[]]) (fun _=>?_)
   refine oC (decide (((j:Nat):Int)<(((gT ts i).ks.length:Nat):Int))) (fun hb8=>?_) (fun hb8=>?_)
   ·
    rw [hb8]
    have:=yT hb8
    refine aG (aA (aB (aI ?_)))
    refine sS Tryz.f10 10 [0,1,6,7,8,9] [] (fun ρ=>[.slice a ts.length c,vn i,.pointer (fK a (i*36)),.pointer (fK a (i*36+35)),.slice (gT ts i).ka (gT ts i).ks.length (gT ts i).kc,vn j,.pointer (fK (gT ts i).ka (j*45)),.agg (dO.row (gK (gT ts i).ks j)),pt (nb ρ 8),undef]) (fun ρ=>[(8,(nw ρ 8 (cL (kM 0 0 0 0 0 0 vz vF) 51))),(9,(bD 65 (nb ρ 8) (cL (dO.row (gK (gT ts i).ks j)) 51)))]) (cR [[],[]]<|cX (qF (fun _ _ _ hG=>bM.idx (k:=.i64) Tryz.underlying24 Tryz.sizeOf46 hG.fn.1 rfl (show ((i:Nat):Int)=((i:Nat):Int) from rfl) (show i<ts.length from (by have:=yF hb2;omega))))<|cX (jF (fun _=>Instr.fieldAt 46 (.pointer (fK a (i*36))) 4) (fun _=>(.pointer (fK a (i*36+35)))) (fun _ _ _ hG=>uH (o:=35) (k:=i*36) Tryz.underlying46 rfl rfl rfl Tryz.sizeOf44 (hG.fn.1.pos (show i<ts.length from (by have:=yF hb2;omega))).1 (hG.fn.1.pos (show i<ts.length from (by have:=yF hb2;omega))).2) (fun _ _ _ _=>cO))<|cX (qF (fun _ _ _ hG=>bM.ld (v:=(.slice (gT ts i).ka (gT ts i).ks.length (gT ts i).kc)) (i:=i) (j:=35) Tryz.isAgg44 hG.fn.1 (show i<ts.length from (by have:=yF hb2;omega)) (by decide) (by kernel_rfl)))<|cR [[]]<|cX (qF (fun _ _ _ hG=>oG.idx (k:=.i64) Tryz.underlying44 Tryz.sizeOf51 (hG.fn.1.sub _ (fA (show i<ts.length from (by have:=yF hb2;omega)))) rfl (show ((j:Nat):Int)=((j:Nat):Int) from rfl) (show j<(gT ts i).ks.length from (by have:=yF hb2;omega))))<|cX (qF (fun _ _ _ hG=>oG.ldA (i:=j) Tryz.isAgg51 Tryz.sizeOf51 (hG.fn.1.sub _ (fA (show i<ts.length from (by have:=yF hb2;omega)))) (show j<(gT ts i).ks.length from (by have:=yF hb2;omega))))<|jE [[],[65]]) (fun ρ24=>?_)
    refine okJ2 (σ:=(Option Addr) × Nat × (List Nat)) (fun ⟨pa,pc,pq⟩=>[(0,(.slice a ts.length c)),(1,(vi z)),(6,(vs q N.length κ)),(7,(vn i)),(8,(vn j)),(9,(pt (nb ρ24 8))),(10,(.slice pa (nI pq).length pc))]) (fun ⟨_,_,_⟩=>[(q,(cL C 39)),(nb ρ24 8,(cL (dO.row (gK (gT ts i).ks j)) 51))]) (fun ⟨pa,pc,pq⟩=>(fun w=>bM w a c ts∧Is w .u32 pa pc (nI pq)∧True)) (fun ⟨_,_,pq⟩=>((gK (gT ts i).ks j).ix z.toNat=pq)∧(∀ x∈pq,x<4294967296)) ?_ ?_
    ·
     rintro ⟨pa,pc,pq⟩ ⟨hq,hq32⟩
     change Ok Tryz.prog _ _ 73 [(0,(.slice a ts.length c)),(1,(vi z)),(6,(vs q N.length κ)),(7,(vn i)),(8,(vn j)),(9,(pt (nb ρ24 8))),(10,(.slice pa (nI pq).length pc))] _ [(q,(cL C 39)),(nb ρ24 8,(cL (dO.row (gK (gT ts i).ks j)) 51))] (fun w=>bM w a c ts∧Is w .u32 pa pc (nI pq)∧True)
     refine sS Tryz.f10 10 [0,1,6,7,8,11,12] [1,0,1] (fun ρ=>let qa:=vi (nM (gK (gT ts i).ks j).k pq);let qb:Value:=.agg (kY (iQ (gK (gT ts i).ks j).k pq));[pt (nb ρ24 8),.agg (kY (gK (gT ts i).ks j).k),.slice pa (nI pq).length pc,.tuple #[qb,qa],.tuple #[qb,qa],qb,qa,pt (nb ρ 7),undef,qa]) (fun ρ=>[(7,(nw ρ 7 (cL (kC 0 0 0 0 0 0) 48))),(8,(bD 58 (nb ρ 7) (cL (kY (iQ (gK (gT ts i).ks j).k pq)) 48)))]) (cR [[],[1],[]]<|cX (qC (fun _ _ w hG=>vJ (gK (gT ts i).ks j).k pa pc pq (ho.gK i j).k hq32 w hG.fn.2.1))<|jE [[],[],[],[],[58],[]]) (fun ρ25=>?_)
     refine aB (jJ Tryz.f10 2 [0,1,6,7,8,11,12,65] [vi (nM (gK (gT ts i).ks j).k pq),.bool ((nM (gK (gT ts i).ks j).k pq) != 0)] ?_)
     refine oC ((nM (gK (gT ts i).ks j).k pq) != 0) (fun hb9=>?_) (fun hb9=>?_)
     ·
      rw [hb9]
      refine jJ Tryz.f10 3 [0,1,4,5,6,7,8,11] (let qa:=vi (nM (gK (gT ts i).ks j).k pq);[qa,vz,qa]) (aF (aC (aP (aC (aC (aP (aP (aC (aC (aP (aC (mD [(0,(.slice a ts.length c)),(1,(vi z)),(4,vz),(5,(vi (nM (gK (gT ts i).ks j).k pq))),(6,(vs q N.length κ)),(7,(vn i)),(8,(vn j)),(11,(pt (nb ρ25 7)))] [(q,(cL C 39)),(nb ρ25 7,(cL (kY (iQ (gK (gT ts i).ks j).k pq)) 48))] ?_))))))))))))
      exact mR (v:=(.tuple #[vz,vi (nM (gK (gT ts i).ks j).k pq)])) (fun _ hS=>(by rw [(pI (aV hb1) hb2 hb3 (l7 (show j<(gT ts i).ks.length from (by have:=yF hb2;omega)) hq hb9 hE) hb9).1,(pI (aV hb1) hb2 hb3 (l7 (show j<(gT ts i).ks.length from (by have:=yF hb2;omega)) hq hb9 hE) hb9).2];exact ⟨none,0,rfl,hS.bel,dB (fun _=>Us.nil)⟩))
     rw [hb9]
     refine aG (aA ?_)
     refine rSf Tryz.f10 6 [0,1,6,7,8] [1,0,0] (fun ρ=>let qa:=vs (nb ρ 4) (N++([(iQ (gK (gT ts i).ks j).k pq).p])).length (aZ ρ 4);[vs q N.length κ,jp (nb ρ25 7) 4,U (iQ (gK (gT ts i).ks j).k pq).p,vs (nb ρ 3) 1 1,qa,qa]) (fun ρ=>[(3,(nw ρ 3 (cL (cU (iQ (gK (gT ts i).ks j).k pq).p) 39))),(4,(bD 0 (nb ρ 4) (cL (oc ρ 4) 39)))]) (fun ρ=>[(4,fun w=>kU.A (oc ρ 4) (N++([(iQ (gK (gT ts i).ks j).k pq).p])) (aZ ρ 4))]) (fun _=>(fun w=>bM w a c ts∧Is w .u32 pa pc (nI pq)∧True)) (fun ρ=>kU.A (oc ρ 4) (N++([(iQ (gK (gT ts i).ks j).k pq).p])) (aZ ρ 4)) (fun _ _ hF hf=>⟨hF,hf 4⟩) (cR [[],[],[1],[]]<|cX (qM 0 (fun ρ _ _ hG hg=>wB (K:=kU) (ty:=29) (g:=q) (ts:=N) (us:=[(iQ (gK (gT ts i).ks j).k pq).p]) Tryz.underlying29 (dA (sz:=4) (b:=32) (z:=(U 0)) (by kernel_rfl) rfl) hA (src_u1 Tryz.underlying29 (hG.kn (g:=nb ρ 3) (o:=(cL (cU (iQ (gK (gT ts i).ks j).k pq).p) 39)) 26)) (by have:=kn_len (aV hb1) hN;have:=zN (R:=aK (ts.drop (i+1))) (show j<(gT ts i).ks.length from (by have:=yF hb2;omega));simp only [List.length_cons,List.length_nil];omega) (by decide) hg))<|jE [[]]) (fun ρ28 ap28_4=>?_)
     refine aJ (aA ?_)
     refine rS Tryz.f10 3 [0,1,6,7,8] [] (fun _=>[vn j,vn (j+1),vn (j+1)]) (fun _=>[]) (cR [[]]<|jW (fun ρ=>(((j:Nat):Int)+1)) (fun _=>(j+1)) (fun _=>(aW j 1 (by have:=yF hb2;omega)))<|jE [[]]) (fun _=>?_)
     refine nD (fun w=>bM w a c ts∧True) (fun w hF=>⟨hF.1,trivial⟩) ?_
     exact mN (Sum.inr (j+1,nb ρ28 4,N++([(iQ (gK (gT ts i).ks j).k pq).p]),oc ρ28 4,aZ ρ28 4)) (by show (gT ts i).ks.length-(j+1)<(gT ts i).ks.length-j;have:=yF hb2;omega) (⟨(by have:=yF hb2;omega),wV (show j<(gT ts i).ks.length from (by have:=yF hb2;omega)) hq hN,xJ (show j<(gT ts i).ks.length from (by have:=yF hb2;omega)) hq hb9 hE,ap28_4,(fun n hn=>(List.mem_append.1 hn).elim (hM n) (fun hn=>by rw [List.mem_singleton.1 hn];exact (yR (ho.gK i j).k hq32).p))⟩) []
    intro J2
    refine iZ Tryz.f10 5 [0,1,6,7,8,9,10] [] (fun ρ=>let qa:=vs (nb ρ 3) (nI (([]:List Nat)++(gK (gT ts i).ks j).ps)).length (aZ ρ 3);[vs (nb ρ 0) 0 0,jp (nb ρ24 8) 43,.slice (gK (gT ts i).ks j).pa (nI (gK (gT ts i).ks j).ps).length (gK (gT ts i).ks j).pc,qa,qa]) (fun ρ=>[(0,(nw ρ 0 (cL #[] 41))),(3,(bD 2 (nb ρ 3) (cL (oc ρ 3) 41)))]) (fun ρ=>[(3,fun w=>kI.A (oc ρ 3) (([]:List Nat)++(gK (gT ts i).ks j).ps) (aZ ρ 3))]) (fun _=>(fun w=>bM w a c ts∧True)) (fun ρ=>kI.A (oc ρ 3) (([]:List Nat)++(gK (gT ts i).ks j).ps) (aZ ρ 3)) (fun _ _ hF hf=>⟨hF,hf 3⟩) (cR [[],[],[1]]<|cX (qM 2 (fun ρ _ _ hG hg=>lT (ty:=49) (g:=nb ρ 0) (ts:=([]:List Nat)) (us:=(gK (gT ts i).ks j).ps) Tryz.underlying49 (dA (sz:=1) (b:=4) (z:=(.int .u32 0)) (by kernel_rfl) rfl) RowK.A.empty (src_is Tryz.underlying49 ((hG.fn.1.sub _ (fA (show i<ts.length from (by have:=yF hb2;omega)))).sub _ (nU (show j<(gT ts i).ks.length from (by have:=yF hb2;omega))))) (by have:=jC (aV hb1) (show i<ts.length from (by have:=yF hb2;omega)) (show j<(gT ts i).ks.length from (by have:=yF hb2;omega));simp only [List.length_nil];omega) (by decide) hg))<|jE [[]]) (fun ρ30 ap30_3=>?_)
    refine aB (jM Tryz.f10 2 [0,1,6,7,8,9,10,51] [] [jp (nb ρ24 8) 44,.bool (gK (gT ts i).ks j).wd] [[],[1]] ?_)
    refine oC (gK (gT ts i).ks j).wd (fun hb10=>?_) (fun hb10=>?_)
    ·
     rw [hb10]
     refine rSf Tryz.f10 6 [0,1,6,7,8,9,10] [1,1,1,0] (fun ρ=>let qa:=vs (nb ρ 4) (nI ((([]:List Nat)++(gK (gT ts i).ks j).ps)++([z.toNat]))).length (aZ ρ 4);[vs (nb ρ30 3) (nI (([]:List Nat)++(gK (gT ts i).ks j).ps)).length (aZ ρ30 3),vi z,vu z.toNat,vs (nb ρ 3) 1 1,qa,qa]) (fun ρ=>[(3,(nw ρ 3 (cL #[vu z.toNat] 41))),(4,(bD 2 (nb ρ 4) (cL (oc ρ 4) 41)))]) (fun ρ=>[(4,fun w=>kI.A (oc ρ 4) ((([]:List Nat)++(gK (gT ts i).ks j).ps)++([z.toNat])) (aZ ρ 4))]) (fun _=>(fun w=>bM w a c ts∧True)) (fun ρ=>kI.A (oc ρ 4) ((([]:List Nat)++(gK (gT ts i).ks j).ps)++([z.toNat])) (aZ ρ 4)) (fun _ _ hF hf=>⟨hF,hf 4⟩) (cR [[],[]]<|cA (fun _=>(vu z.toNat)) (fun _=>jN (u32Z hb2 hb3))<|cR [[]]<|cX (qM 2 (fun ρ _ _ hG hg=>lT (ty:=49) (g:=nb ρ30 3) (ts:=([]:List Nat)++(gK (gT ts i).ks j).ps) (us:=[z.toNat]) Tryz.underlying49 (dA (sz:=1) (b:=4) (z:=(.int .u32 0)) (by kernel_rfl) rfl) ap30_3 (tJ Tryz.underlying49 (hG.kn (g:=nb ρ 3) (o:=(cL #[vu z.toNat] 41)) 27)) (by have:=jC (aV hb1) (show i<ts.length from (by have:=yF hb2;omega)) (show j<(gT ts i).ks.length from (by have:=yF hb2;omega));simp only [List.length_append,List.length_cons,List.length_nil];omega) (by decide) hg))<|jE [[]]) (fun ρ32 ap32_4=>?_)
     refine aA ?_
     refine lK [(0,(.slice a ts.length c)),(1,(vi z)),(6,(vs q N.length κ)),(7,(vn i)),(8,(vn j)),(9,(pt (nb ρ24 8))),(10,(vs (nb ρ32 4) (nI ((([]:List Nat)++(gK (gT ts i).ks j).ps)++([z.toNat]))).length (aZ ρ32 4)))] [(q,(cL C 39)),(nb ρ24 8,(cL (dO.row (gK (gT ts i).ks j)) 51)),(nb ρ32 4,(cL (oc ρ32 4) 41))] ?_
     exact okE J2 (some ⟨nb ρ32 4,0,none⟩,aZ ρ32 4,(([]:List Nat)++(gK (gT ts i).ks j).ps)++[z.toNat]) (⟨ix_d hb10,(fun x hx=>(List.mem_append.1 hx).elim ((ho.gK i j).ps x) (fun hx=>by rw [List.mem_singleton.1 hx];exact (z32n hb2 hb3)))⟩) (fun w hS=>(hS.frozI (e:=41) (fr:=(0,0)) 2 ap32_4 (by have:=jC (aV hb1) (show i<ts.length from (by have:=yF hb2;omega)) (show j<(gT ts i).ks.length from (by have:=yF hb2;omega));simp only [List.length_append,List.length_cons,List.length_nil];omega) []).weaken (fun w hF=>⟨hF.2.1,hF.1,trivial⟩))
    rw [hb10]
    refine aG (aA ?_)
    refine lK [(0,(.slice a ts.length c)),(1,(vi z)),(6,(vs q N.length κ)),(7,(vn i)),(8,(vn j)),(9,(pt (nb ρ24 8))),(10,(vs (nb ρ30 3) (nI (([]:List Nat)++(gK (gT ts i).ks j).ps)).length (aZ ρ30 3))),(51,vF)] [(q,(cL C 39)),(nb ρ24 8,(cL (dO.row (gK (gT ts i).ks j)) 51)),(nb ρ30 3,(cL (oc ρ30 3) 41))] ?_
    exact okE J2 (some ⟨nb ρ30 3,0,none⟩,aZ ρ30 3,([]:List Nat)++(gK (gT ts i).ks j).ps) (⟨ix_c hb10,(ho.gK i j).ps⟩) (fun w hS=>(hS.frozI (e:=41) (fr:=(0,0)) 2 ap30_3 (by have:=jC (aV hb1) (show i<ts.length from (by have:=yF hb2;omega)) (show j<(gT ts i).ks.length from (by have:=yF hb2;omega));simp only [List.length_append,List.length_nil];omega) []).weaken (fun w hF=>⟨hF.2.1,hF.1,trivial⟩))
   rw [hb8]
   have:=yF hb8
   refine bF (aN (aN (aT (aJ (aA ?_)))))
   refine rS Tryz.f10 3 [0,1,6,7] [] (fun _=>[vn i,vn (i+1),vn (i+1)]) (fun _=>[]) (cR [[]]<|jW (fun ρ=>(((i:Nat):Int)+1)) (fun _=>(i+1)) (fun _=>(aW i 1 (by have:=yF hb2;omega)))<|jE [[]]) (fun _=>?_)
   exact mN (Sum.inr (i+1,q,N,C,κ)) (by show ts.length-(i+1)<ts.length-i;have:=yF hb2;omega) (⟨(by have:=yF hb2;omega),kn_out (by have:=yF hb2;omega) hN,ke_out (by have:=yF hb2;omega) hE,hA,hM⟩) []
  rw [hb4]
  have:=ho.klen hf0 i
  refine bF (aN (aN (aT (aA (jJ Tryz.f10 3 [4,5] [vz,vz,vi 0] (aF (mD [(4,vz),(5,(vi 0))] [] ?_)))))))
  exact mR (v:=(.tuple #[vz,vi 0])) (fun _ hS=>(by rw [(ky_ok (aV hb1) hb2 hb3 (by have:=yF hb2;have:=yF hb4;omega) hE0 hN0).1,(ky_ok (aV hb1) hb2 hb3 (by have:=yF hb2;have:=yF hb4;omega) hE0 hN0).2];exact ⟨none,0,rfl,hS.bel,dB (fun _=>Us.nil)⟩))
 rintro ⟨hi,hN0,hE0,hA,hM⟩
 change Ok Tryz.prog _ _ 73 [(0,(.slice a ts.length c)),(1,(vi z)),(6,(vs q N.length κ)),(7,(vn i))] _ [(q,(cL C 39))] (fun w=>bM w a c ts∧True)
 refine aB (jJ Tryz.f10 4 [0,1,6,7,25] [vn i,.slice a ts.length c,vn ts.length,.bool (decide (((i:Nat):Int)<((ts.length:Nat):Int)))] ?_)
 refine oC (decide (((i:Nat):Int)<((ts.length:Nat):Int))) (fun hb11=>?_) (fun hb11=>?_)
 ·
  rw [hb11]
  have:=yT hb11
  have:=ho.klen hf0 i
  refine aG (aA (aB (aI (jJ Tryz.f10 1 [0,1,6,7,8] [vi 0] (aI ?_)))))
  refine oL (σ:=(Nat × Nat × (List Nat) × (Array Value) × Nat)) (fun s=>match s with |  ⟨j,q,N,_,κ⟩=>[(0,(.slice a ts.length c)),(1,(vi z)),(6,(vs q N.length κ)),(7,(vn i)),(8,(vn j))]) (fun s=>match s with |  ⟨_,q,_,C,_⟩=>[(q,(cL C 39))]) (fun s=>match s with |  ⟨j,_,_,_,_⟩=>(gT ts i).ks.length-j)
    (fun s=>match s with |  ⟨j,_,N,C,κ⟩=>(j≤(gT ts i).ks.length)∧(N++xE z.toNat ((gT ts i).ks.drop j++aK (ts.drop (i+1)))=xE z.toNat (aK ts))∧(uU z.toNat ((gT ts i).ks.drop j++aK (ts.drop (i+1)))=uU z.toNat (aK ts))∧(kU.A C N κ)∧(∀ n∈N,n<M)) ((0,q,N,C,κ)) (⟨Nat.zero_le _,kn_in (show i<ts.length from (by have:=yF hb2;omega)) hN0,ke_in (show i<ts.length from (by have:=yF hb2;omega)) hE0,hA,hM⟩) [] ?_
  rintro ⟨j,q,N,C,κ⟩
  rintro ⟨hj,hN,hE,hA,hM⟩
  change Ok Tryz.prog _ _ 73 [(0,(.slice a ts.length c)),(1,(vi z)),(6,(vs q N.length κ)),(7,(vn i)),(8,(vn j))] _ [(q,(cL C 39))] (fun w=>bM w a c ts∧True)
  refine aB ?_
  refine sS Tryz.f10 8 [0,1,6,7,8,35] [] (fun _=>[vn j,.slice a ts.length c,vn i,.pointer (fK a (i*36)),.pointer (fK a (i*36+35)),.slice (gT ts i).ka (gT ts i).ks.length (gT ts i).kc,vn (gT ts i).ks.length,.bool (decide (((j:Nat):Int)<(((gT ts i).ks.length:Nat):Int)))]) (fun _=>[]) (cR [[],[],[]]<|cX (qF (fun _ _ _ hG=>bM.idx (k:=.i64) Tryz.underlying24 Tryz.sizeOf46 hG.fn.1 rfl (show ((i:Nat):Int)=((i:Nat):Int) from rfl) (show i<ts.length from (by have:=yF hb2;omega))))<|cX (jF (fun _=>Instr.fieldAt 46 (.pointer (fK a (i*36))) 4) (fun _=>(.pointer (fK a (i*36+35)))) (fun _ _ _ hG=>uH (o:=35) (k:=i*36) Tryz.underlying46 rfl rfl rfl Tryz.sizeOf44 (hG.fn.1.pos (show i<ts.length from (by have:=yF hb2;omega))).1 (hG.fn.1.pos (show i<ts.length from (by have:=yF hb2;omega))).2) (fun _ _ _ _=>cO))<|cX (qF (fun _ _ _ hG=>bM.ld (v:=(.slice (gT ts i).ka (gT ts i).ks.length (gT ts i).kc)) (i:=i) (j:=35) Tryz.isAgg44 hG.fn.1 (show i<ts.length from (by have:=yF hb2;omega)) (by decide) (by kernel_rfl)))<|jE [[],[]]) (fun _=>?_)
  refine oC (decide (((j:Nat):Int)<(((gT ts i).ks.length:Nat):Int))) (fun hb12=>?_) (fun hb12=>?_)
  ·
   rw [hb12]
   have:=yT hb12
   refine aG (aA (aB (aI ?_)))
   refine sS Tryz.f10 10 [0,1,6,7,8,9] [] (fun ρ=>[.slice a ts.length c,vn i,.pointer (fK a (i*36)),.pointer (fK a (i*36+35)),.slice (gT ts i).ka (gT ts i).ks.length (gT ts i).kc,vn j,.pointer (fK (gT ts i).ka (j*45)),.agg (dO.row (gK (gT ts i).ks j)),pt (nb ρ 8),undef]) (fun ρ=>[(8,(nw ρ 8 (cL (kM 0 0 0 0 0 0 vz vF) 51))),(9,(bD 65 (nb ρ 8) (cL (dO.row (gK (gT ts i).ks j)) 51)))]) (cR [[],[]]<|cX (qF (fun _ _ _ hG=>bM.idx (k:=.i64) Tryz.underlying24 Tryz.sizeOf46 hG.fn.1 rfl (show ((i:Nat):Int)=((i:Nat):Int) from rfl) (show i<ts.length from (by have:=yF hb2;omega))))<|cX (jF (fun _=>Instr.fieldAt 46 (.pointer (fK a (i*36))) 4) (fun _=>(.pointer (fK a (i*36+35)))) (fun _ _ _ hG=>uH (o:=35) (k:=i*36) Tryz.underlying46 rfl rfl rfl Tryz.sizeOf44 (hG.fn.1.pos (show i<ts.length from (by have:=yF hb2;omega))).1 (hG.fn.1.pos (show i<ts.length from (by have:=yF hb2;omega))).2) (fun _ _ _ _=>cO))<|cX (qF (fun _ _ _ hG=>bM.ld (v:=(.slice (gT ts i).ka (gT ts i).ks.length (gT ts i).kc)) (i:=i) (j:=35) Tryz.isAgg44 hG.fn.1 (show i<ts.length from (by have:=yF hb2;omega)) (by decide) (by kernel_rfl)))<|cR [[]]<|cX (qF (fun _ _ _ hG=>oG.idx (k:=.i64) Tryz.underlying44 Tryz.sizeOf51 (hG.fn.1.sub _ (fA (show i<ts.length from (by have:=yF hb2;omega)))) rfl (show ((j:Nat):Int)=((j:Nat):Int) from rfl) (show j<(gT ts i).ks.length from (by have:=yF hb2;omega))))<|cX (qF (fun _ _ _ hG=>oG.ldA (i:=j) Tryz.isAgg51 Tryz.sizeOf51 (hG.fn.1.sub _ (fA (show i<ts.length from (by have:=yF hb2;omega)))) (show j<(gT ts i).ks.length from (by have:=yF hb2;omega))))<|jE [[],[65]]) (fun ρ38=>?_)
   refine okJ2 (σ:=(Option Addr) × Nat × (List Nat)) (fun ⟨pa,pc,pq⟩=>[(0,(.slice a ts.length c)),(1,(vi z)),(6,(vs q N.length κ)),(7,(vn i)),(8,(vn j)),(9,(pt (nb ρ38 8))),(10,(.slice pa (nI pq).length pc))]) (fun ⟨_,_,_⟩=>[(q,(cL C 39)),(nb ρ38 8,(cL (dO.row (gK (gT ts i).ks j)) 51))]) (fun ⟨pa,pc,pq⟩=>(fun w=>bM w a c ts∧Is w .u32 pa pc (nI pq)∧True)) (fun ⟨_,_,pq⟩=>((gK (gT ts i).ks j).ix z.toNat=pq)∧(∀ x∈pq,x<4294967296)) ?_ ?_
   ·
    rintro ⟨pa,pc,pq⟩ ⟨hq,hq32⟩
    change Ok Tryz.prog _ _ 73 [(0,(.slice a ts.length c)),(1,(vi z)),(6,(vs q N.length κ)),(7,(vn i)),(8,(vn j)),(9,(pt (nb ρ38 8))),(10,(.slice pa (nI pq).length pc))] _ [(q,(cL C 39)),(nb ρ38 8,(cL (dO.row (gK (gT ts i).ks j)) 51))] (fun w=>bM w a c ts∧Is w .u32 pa pc (nI pq)∧True)
    refine sS Tryz.f10 10 [0,1,6,7,8,11,12] [1,0,1] (fun ρ=>let qa:=vi (nM (gK (gT ts i).ks j).k pq);let qb:Value:=.agg (kY (iQ (gK (gT ts i).ks j).k pq));[pt (nb ρ38 8),.agg (kY (gK (gT ts i).ks j).k),.slice pa (nI pq).length pc,.tuple #[qb,qa],.tuple #[qb,qa],qb,qa,pt (nb ρ 7),undef,qa]) (fun ρ=>[(7,(nw ρ 7 (cL (kC 0 0 0 0 0 0) 48))),(8,(bD 58 (nb ρ 7) (cL (kY (iQ (gK (gT ts i).ks j).k pq)) 48)))]) (cR [[],[1],[]]<|cX (qC (fun _ _ w hG=>vJ (gK (gT ts i).ks j).k pa pc pq (ho.gK i j).k hq32 w hG.fn.2.1))<|jE [[],[],[],[],[58],[]]) (fun ρ39=>?_)
    refine aB (jJ Tryz.f10 2 [0,1,6,7,8,11,12,65] [vi (nM (gK (gT ts i).ks j).k pq),.bool ((nM (gK (gT ts i).ks j).k pq) != 0)] ?_)
    refine oC ((nM (gK (gT ts i).ks j).k pq) != 0) (fun hb13=>?_) (fun hb13=>?_)
    ·
     rw [hb13]
     refine jJ Tryz.f10 3 [0,1,4,5,6,7,8,11] (let qa:=vi (nM (gK (gT ts i).ks j).k pq);[qa,vz,qa]) (aF (aC (aP (aC (aC (aP (aP (aC (aC (aP (aC (mD [(0,(.slice a ts.length c)),(1,(vi z)),(4,vz),(5,(vi (nM (gK (gT ts i).ks j).k pq))),(6,(vs q N.length κ)),(7,(vn i)),(8,(vn j)),(11,(pt (nb ρ39 7)))] [(q,(cL C 39)),(nb ρ39 7,(cL (kY (iQ (gK (gT ts i).ks j).k pq)) 48))] ?_))))))))))))
     exact mR (v:=(.tuple #[vz,vi (nM (gK (gT ts i).ks j).k pq)])) (fun _ hS=>(by rw [(pI (aV hb1) hb2 hb3 (l7 (show j<(gT ts i).ks.length from (by have:=yF hb2;omega)) hq hb13 hE) hb13).1,(pI (aV hb1) hb2 hb3 (l7 (show j<(gT ts i).ks.length from (by have:=yF hb2;omega)) hq hb13 hE) hb13).2];exact ⟨none,0,rfl,hS.bel,dB (fun _=>Us.nil)⟩))
    rw [hb13]
    refine aG (aA ?_)
    refine rSf Tryz.f10 6 [0,1,6,7,8] [1,0,0] (fun ρ=>let qa:=vs (nb ρ 4) (N++([(iQ (gK (gT ts i).ks j).k pq).p])).length (aZ ρ 4);[vs q N.length κ,jp (nb ρ39 7) 4,U (iQ (gK (gT ts i).ks j).k pq).p,vs (nb ρ 3) 1 1,qa,qa]) (fun ρ=>[(3,(nw ρ 3 (cL (cU (iQ (gK (gT ts i).ks j).k pq).p) 39))),(4,(bD 0 (nb ρ 4) (cL (oc ρ 4) 39)))]) (fun ρ=>[(4,fun w=>kU.A (oc ρ 4) (N++([(iQ (gK (gT ts i).ks j).k pq).p])) (aZ ρ 4))]) (fun _=>(fun w=>bM w a c ts∧Is w .u32 pa pc (nI pq)∧True)) (fun ρ=>kU.A (oc ρ 4) (N++([(iQ (gK (gT ts i).ks j).k pq).p])) (aZ ρ 4)) (fun _ _ hF hf=>⟨hF,hf 4⟩) (cR [[],[],[1],[]]<|cX (qM 0 (fun ρ _ _ hG hg=>wB (K:=kU) (ty:=29) (g:=q) (ts:=N) (us:=[(iQ (gK (gT ts i).ks j).k pq).p]) Tryz.underlying29 (dA (sz:=4) (b:=32) (z:=(U 0)) (by kernel_rfl) rfl) hA (src_u1 Tryz.underlying29 (hG.kn (g:=nb ρ 3) (o:=(cL (cU (iQ (gK (gT ts i).ks j).k pq).p) 39)) 26)) (by have:=kn_len (aV hb1) hN;have:=zN (R:=aK (ts.drop (i+1))) (show j<(gT ts i).ks.length from (by have:=yF hb2;omega));simp only [List.length_cons,List.length_nil];omega) (by decide) hg))<|jE [[]]) (fun ρ42 ap42_4=>?_)
    refine aJ (aA ?_)
    refine rS Tryz.f10 3 [0,1,6,7,8] [] (fun _=>[vn j,vn (j+1),vn (j+1)]) (fun _=>[]) (cR [[]]<|jW (fun ρ=>(((j:Nat):Int)+1)) (fun _=>(j+1)) (fun _=>(aW j 1 (by have:=yF hb2;omega)))<|jE [[]]) (fun _=>?_)
    refine nD (fun w=>bM w a c ts∧True) (fun w hF=>⟨hF.1,trivial⟩) ?_
    exact mN ((j+1,nb ρ42 4,N++([(iQ (gK (gT ts i).ks j).k pq).p]),oc ρ42 4,aZ ρ42 4)) (by show (gT ts i).ks.length-(j+1)<(gT ts i).ks.length-j;have:=yF hb2;omega) (⟨(by have:=yF hb2;omega),wV (show j<(gT ts i).ks.length from (by have:=yF hb2;omega)) hq hN,xJ (show j<(gT ts i).ks.length from (by have:=yF hb2;omega)) hq hb13 hE,ap42_4,(fun n hn=>(List.mem_append.1 hn).elim (hM n) (fun hn=>by rw [List.mem_singleton.1 hn];exact (yR (ho.gK i j).k hq32).p))⟩) []
   intro J3
   refine iZ Tryz.f10 5 [0,1,6,7,8,9,10] [] (fun ρ=>let qa:=vs (nb ρ 3) (nI (([]:List Nat)++(gK (gT ts i).ks j).ps)).length (aZ ρ 3);[vs (nb ρ 0) 0 0,jp (nb ρ38 8) 43,.slice (gK (gT ts i).ks j).pa (nI (gK (gT ts i).ks j).ps).length (gK (gT ts i).ks j).pc,qa,qa]) (fun ρ=>[(0,(nw ρ 0 (cL #[] 41))),(3,(bD 2 (nb ρ 3) (cL (oc ρ 3) 41)))]) (fun ρ=>[(3,fun w=>kI.A (oc ρ 3) (([]:List Nat)++(gK (gT ts i).ks j).ps) (aZ ρ 3))]) (fun _=>(fun w=>bM w a c ts∧True)) (fun ρ=>kI.A (oc ρ 3) (([]:List Nat)++(gK (gT ts i).ks j).ps) (aZ ρ 3)) (fun _ _ hF hf=>⟨hF,hf 3⟩) (cR [[],[],[1]]<|cX (qM 2 (fun ρ _ _ hG hg=>lT (ty:=49) (g:=nb ρ 0) (ts:=([]:List Nat)) (us:=(gK (gT ts i).ks j).ps) Tryz.underlying49 (dA (sz:=1) (b:=4) (z:=(.int .u32 0)) (by kernel_rfl) rfl) RowK.A.empty (src_is Tryz.underlying49 ((hG.fn.1.sub _ (fA (show i<ts.length from (by have:=yF hb2;omega)))).sub _ (nU (show j<(gT ts i).ks.length from (by have:=yF hb2;omega))))) (by have:=jC (aV hb1) (show i<ts.length from (by have:=yF hb2;omega)) (show j<(gT ts i).ks.length from (by have:=yF hb2;omega));simp only [List.length_nil];omega) (by decide) hg))<|jE [[]]) (fun ρ44 ap44_3=>?_)
   refine aB (jM Tryz.f10 2 [0,1,6,7,8,9,10,51] [] [jp (nb ρ38 8) 44,.bool (gK (gT ts i).ks j).wd] [[],[1]] ?_)
   refine oC (gK (gT ts i).ks j).wd (fun hb14=>?_) (fun hb14=>?_)
   ·
    rw [hb14]
    refine rSf Tryz.f10 6 [0,1,6,7,8,9,10] [1,1,1,0] (fun ρ=>let qa:=vs (nb ρ 4) (nI ((([]:List Nat)++(gK (gT ts i).ks j).ps)++([z.toNat]))).length (aZ ρ 4);[vs (nb ρ44 3) (nI (([]:List Nat)++(gK (gT ts i).ks j).ps)).length (aZ ρ44 3),vi z,vu z.toNat,vs (nb ρ 3) 1 1,qa,qa]) (fun ρ=>[(3,(nw ρ 3 (cL #[vu z.toNat] 41))),(4,(bD 2 (nb ρ 4) (cL (oc ρ 4) 41)))]) (fun ρ=>[(4,fun w=>kI.A (oc ρ 4) ((([]:List Nat)++(gK (gT ts i).ks j).ps)++([z.toNat])) (aZ ρ 4))]) (fun _=>(fun w=>bM w a c ts∧True)) (fun ρ=>kI.A (oc ρ 4) ((([]:List Nat)++(gK (gT ts i).ks j).ps)++([z.toNat])) (aZ ρ 4)) (fun _ _ hF hf=>⟨hF,hf 4⟩) (cR [[],[]]<|cA (fun _=>(vu z.toNat)) (fun _=>jN (u32Z hb2 hb3))<|cR [[]]<|cX (qM 2 (fun ρ _ _ hG hg=>lT (ty:=49) (g:=nb ρ44 3) (ts:=([]:List Nat)++(gK (gT ts i).ks j).ps) (us:=[z.toNat]) Tryz.underlying49 (dA (sz:=1) (b:=4) (z:=(.int .u32 0)) (by kernel_rfl) rfl) ap44_3 (tJ Tryz.underlying49 (hG.kn (g:=nb ρ 3) (o:=(cL #[vu z.toNat] 41)) 27)) (by have:=jC (aV hb1) (show i<ts.length from (by have:=yF hb2;omega)) (show j<(gT ts i).ks.length from (by have:=yF hb2;omega));simp only [List.length_append,List.length_cons,List.length_nil];omega) (by decide) hg))<|jE [[]]) (fun ρ46 ap46_4=>?_)
    refine aA ?_
    refine lK [(0,(.slice a ts.length c)),(1,(vi z)),(6,(vs q N.length κ)),(7,(vn i)),(8,(vn j)),(9,(pt (nb ρ38 8))),(10,(vs (nb ρ46 4) (nI ((([]:List Nat)++(gK (gT ts i).ks j).ps)++([z.toNat]))).length (aZ ρ46 4)))] [(q,(cL C 39)),(nb ρ38 8,(cL (dO.row (gK (gT ts i).ks j)) 51)),(nb ρ46 4,(cL (oc ρ46 4) 41))] ?_
    exact okE J3 (some ⟨nb ρ46 4,0,none⟩,aZ ρ46 4,(([]:List Nat)++(gK (gT ts i).ks j).ps)++[z.toNat]) (⟨ix_d hb14,(fun x hx=>(List.mem_append.1 hx).elim ((ho.gK i j).ps x) (fun hx=>by rw [List.mem_singleton.1 hx];exact (z32n hb2 hb3)))⟩) (fun w hS=>(hS.frozI (e:=41) (fr:=(0,0)) 2 ap46_4 (by have:=jC (aV hb1) (show i<ts.length from (by have:=yF hb2;omega)) (show j<(gT ts i).ks.length from (by have:=yF hb2;omega));simp only [List.length_append,List.length_cons,List.length_nil];omega) []).weaken (fun w hF=>⟨hF.2.1,hF.1,trivial⟩))
   rw [hb14]
   refine aG (aA ?_)
   refine lK [(0,(.slice a ts.length c)),(1,(vi z)),(6,(vs q N.length κ)),(7,(vn i)),(8,(vn j)),(9,(pt (nb ρ38 8))),(10,(vs (nb ρ44 3) (nI (([]:List Nat)++(gK (gT ts i).ks j).ps)).length (aZ ρ44 3))),(51,vF)] [(q,(cL C 39)),(nb ρ38 8,(cL (dO.row (gK (gT ts i).ks j)) 51)),(nb ρ44 3,(cL (oc ρ44 3) 41))] ?_
   exact okE J3 (some ⟨nb ρ44 3,0,none⟩,aZ ρ44 3,([]:List Nat)++(gK (gT ts i).ks j).ps) (⟨ix_c hb14,(ho.gK i j).ps⟩) (fun w hS=>(hS.frozI (e:=41) (fr:=(0,0)) 2 ap44_3 (by have:=jC (aV hb1) (show i<ts.length from (by have:=yF hb2;omega)) (show j<(gT ts i).ks.length from (by have:=yF hb2;omega));simp only [List.length_append,List.length_nil];omega) []).weaken (fun w hF=>⟨hF.2.1,hF.1,trivial⟩))
  rw [hb12]
  have:=yF hb12
  refine bF (aN (aN (aT (aJ (aA ?_)))))
  refine rS Tryz.f10 3 [0,1,6,7] [] (fun _=>[vn i,vn (i+1),vn (i+1)]) (fun _=>[]) (cR [[]]<|jW (fun ρ=>(((i:Nat):Int)+1)) (fun _=>(i+1)) (fun _=>(aW i 1 (by have:=yF hb2;omega)))<|jE [[]]) (fun _=>?_)
  exact mN (Sum.inr (i+1,q,N,C,κ)) (by show ts.length-(i+1)<ts.length-i;have:=yF hb2;omega) (⟨(by have:=yF hb2;omega),kn_out (by have:=yF hb2;omega) hN,ke_out (by have:=yF hb2;omega) hE,hA,hM⟩) []
 rw [hb11]
 have:=ho.klen hf0 i
 refine bF (aN (aN (aT (aA (jJ Tryz.f10 3 [4,5] [vs q N.length κ,vs q N.length κ,vi 0] (aF (mD [(4,(vs q N.length κ)),(5,(vi 0))] [(q,(cL C 39))] ?_)))))))
 exact mR (v:=(.tuple #[vs q N.length κ,vi 0])) (fun _ hS=>(by rw [(ky_ok (aV hb1) hb2 hb3 (by have:=yF hb2;have:=yF hb11;omega) hE0 hN0).1,(ky_ok (aV hb1) hb2 hb3 (by have:=yF hb2;have:=yF hb11;omega) hE0 hN0).2];exact ⟨some ⟨q,0,none⟩,κ,rfl,hS.bel,Us.new (hS.newb (.head _)) hA (by have:=kn_len (aV hb1) hN0;omega) hM⟩))
theorem xU (a:Option Addr) (c:Nat) (ts:List bW) (z:Int) (n:Nat) (m:Nat) (hB:kZ ts z=0→BlC ts (gV ts z) (xP ts z) n m) (w0:World) (hf0:bM w0 a c ts):Calls Tryz.prog 12 #[.slice a ts.length c,vi z] w0 (fun ε w'=>∃ α κ,ε=.returned (.tuple #[.slice α (wG ts z).length κ,vi (exE ts z)])∧jG w0 w'∧Fs w0 w' α κ (wG ts z)):=by
 refine Calls.of_ok (n:=31) (F:=(fun w=>bM w a c ts∧True)) Tryz.func12 rfl rfl rfl (by simp) (hf0.pers0.and cO) ?_
 refine jJ Tryz.f12 2 [0,1,4,5] [vz,vi 0] ?_
 refine iZ Tryz.f12 8 [0,4,5,6,7] [] (fun ρ=>let qa:Value:=.slice (oa ρ 2) (gV ts z).length (nb ρ 2);[.slice a ts.length c,vi z,.tuple #[qa,vi (kZ ts z)],.tuple #[qa,vi (kZ ts z)],qa,vi (kZ ts z),qa,vi (kZ ts z)]) (fun _=>[]) (fun ρ=>[(2,fun w=>Us w (oa ρ 2) (nb ρ 2) (gV ts z))]) (fun ρ=>(fun w=>bM w a c ts∧Us w (oa ρ 2) (nb ρ 2) (gV ts z)∧True)) (fun _=>True) (fun _ _ hF hf=>⟨⟨hF.1,hf 2,trivial⟩,trivial⟩) (cR [[],[]]<|cX (qV (fun _ _ w hG=>rdkeys_any a c ts z w hG.fn.1))<|jE [[],[],[],[],[]]) (fun ρ2 _=>?_)
 refine aB (jJ Tryz.f12 2 [0,4,5,6,7,18] [vi (kZ ts z),.bool ((kZ ts z) != 0)] ?_)
 refine oC ((kZ ts z) != 0) (fun hb1=>?_) (fun hb1=>?_)
 ·
  rw [hb1]
  refine jJ Tryz.f12 3 [0,4,5,6] [vi (kZ ts z),vz,vi (kZ ts z)] (aF (aC (mD [(0,(.slice a ts.length c)),(4,vz),(5,(vi (kZ ts z))),(6,(.slice (oa ρ2 2) (gV ts z).length (nb ρ2 2)))] [] ?_)))
  exact mR (v:=(.tuple #[vz,vi (kZ ts z)])) (fun _ hS=>⟨none,0,congrArg Ending.returned (by rw [(ex_err hb1).1,(ex_err hb1).2]<;>rfl),hS.bel,dU (ex_err hb1).2.symm Fs.nil⟩)
 rw [hb1]
 refine aG (aA ?_)
 refine iZ Tryz.f12 10 [4,5,8] [] (fun ρ=>let qa:Value:=.slice (oa ρ 2) (xP ts z).length (nb ρ 2);[.slice a ts.length c,.slice (oa ρ2 2) (gV ts z).length (nb ρ2 2),.tuple #[qa,vn n,vn m],.tuple #[qa,vn n,vn m],qa,vn n,vn m,qa,vn n,vn m]) (fun _=>[]) (fun ρ=>[(2,fun w=>Fs w0 w (oa ρ 2) (nb ρ 2) (xP ts z))]) (fun ρ=>(fun w=>bM w a c ts∧Us w (oa ρ2 2) (nb ρ2 2) (gV ts z)∧Fs w0 w (oa ρ 2) (nb ρ 2) (xP ts z)∧True)) (fun _=>True) (fun _ _ hF hf=>⟨⟨hF.1,hF.2.1,hf 2,trivial⟩,trivial⟩) (cR [[],[]]<|cX (qB (fun _ _ w hG=>hB (dD hb1) a (oa ρ2 2) c (nb ρ2 2) w hG.fn.1 hG.fn.2.1))<|jE [[],[],[],[],[],[],[]]) (fun ρ5 _=>?_)
 refine aB (jJ Tryz.f12 3 [4,5,8,29] [.slice (oa ρ5 2) (xP ts z).length (nb ρ5 2),vn (xP ts z).length,.bool (decide (520<(((xP ts z).length:Nat):Int)))] ?_)
 refine oC (decide (520<(((xP ts z).length:Nat):Int))) (fun hb2=>?_) (fun hb2=>?_)
 ·
  rw [hb2]
  refine jJ Tryz.f12 2 [4,5,8] [vz,vi 4] (aF (aC (mD [(4,vz),(5,(vi 4)),(8,(.slice (oa ρ5 2) (xP ts z).length (nb ρ5 2)))] [] ?_)))
  exact mR (v:=(.tuple #[vz,vi 4])) (fun _ hS=>⟨none,0,congrArg Ending.returned (by rw [(wQ hb1 hb2).1,(wQ hb1 hb2).2]<;>rfl),hS.bel,dU (wQ hb1 hb2).2.symm Fs.nil⟩)
 rw [hb2]
 refine aG (aA (jJ Tryz.f12 3 [4,5] (let qa:Value:=.slice (oa ρ5 2) (xP ts z).length (nb ρ5 2);[qa,qa,vi 0]) (aF (mD [(4,(.slice (oa ρ5 2) (xP ts z).length (nb ρ5 2))),(5,(vi 0))] [] ?_))))
 exact mR (v:=(.tuple #[.slice (oa ρ5 2) (xP ts z).length (nb ρ5 2),vi 0])) (fun _ hS=>⟨oa ρ5 2,nb ρ5 2,congrArg Ending.returned (by rw [(ex_ok hb1 hb2).1,(ex_ok hb1 hb2).2]<;>rfl),hS.bel,dU (ex_ok hb1 hb2).2.symm hS.facts.now.2.2.1⟩)
theorem rdexpand_any (a:Option Addr) (c:Nat) (ts:List bW) (z:Int) (h2:∀ t∈ts,t.kd=2→t.ks.length=2) (w0:World) (hf0:bM w0 a c ts):Calls Tryz.prog 12 #[.slice a ts.length c,.int .i64 z] w0 (fun ε w'=>∃ α κ,ε=.returned (.tuple #[.slice α (wG ts z).length κ,.int .i64 (exE ts z)])∧jG w0 w'∧Fs w0 w' α κ (wG ts z)):=by
  by_cases h0:kZ ts z=0
  · obtain ⟨n, m, hB⟩ := build_ex h0 h2 hf0.oks hf0.max (kyN_ok hf0.oks z) (Nat.le_trans (oH ts z) (by decide))
    exact xU a c ts z n m (fun _=>hB) w0 hf0
  · exact xU a c ts z 0 0 (fun h=>absurd h h0) w0 hf0
theorem rdexpandN_any (a:Option Addr) (c:Nat) (ts:List bW) (z:Int) (w0:World) (hf0:TmN w0 a c ts):Calls Tryz.prog 12 #[.slice a ts.length c,.int .i64 z] w0 (fun ε w'=>∃ α κ,ε=.returned (.tuple #[.slice α (wG ts z).length κ,.int .i64 (exE ts z)])∧jG w0 w'∧Fs w0 w' α κ (wG ts z)):=rdexpand_any a c ts z (fun t ht=>(hf0.2.2.2 t ht).2.1) w0 hf0.1
theorem same6_any (a:Option Addr) (c:Nat) (B:List UInt8) (a2:Option Addr) (c2:Nat) (S:List UInt8) (w0:World) (hf0:Bs w0 a c B) (hf1:Bs w0 a2 c2 S):Calls Tryz.prog 13 #[.slice a B.length c,.slice a2 S.length c2] w0 (jR (.bool (decide (B=S))) w0):=by
 refine Calls.of_ok (n:=10) (F:=(fun w=>Bs w a c B∧Bs w a2 c2 S∧True)) Tryz.func13 rfl rfl rfl (by simp) (hf0.pers0.and (hf1.pers0.and cO)) ?_
 refine jJ Tryz.f13 1 [0,1,4] [vF] ?_
 refine sS Tryz.f13 6 [4] [] (fun _=>[.slice a B.length c,.string (gY B),.slice a2 S.length c2,.string (gY S),.bool (decide (B=S)),.bool (decide (B=S))]) (fun _=>[]) (cR [[]]<|cX (jF (fun _=>convert 33 9 (.slice a B.length c)) (fun _=>(.string (gY B))) (fun _ _ _ hG=>str_bytes (xs:=B) Tryz.underlying33 Tryz.underlying5 Tryz.underlying9 hG.fn.1 rfl) (fun _ _ _ _=>cO))<|cR [[]]<|cX (jF (fun _=>convert 33 9 (.slice a2 S.length c2)) (fun _=>(.string (gY S))) (fun _ _ _ hG=>str_bytes (xs:=S) Tryz.underlying33 Tryz.underlying5 Tryz.underlying9 hG.fn.2.1 rfl) (fun _ _ _ _=>cO))<|cB .eql 9 (fun _ w=>eql_str B S w)<|jE [[]]) (fun _=>?_)
 refine aF ?_
 exact mR (v:=(.bool (decide (B=S)))) (fun _ hS=>⟨rfl,hS.bel⟩)
theorem same6_eq (a:Option Addr) (c:Nat) (B:List UInt8) (a2:Option Addr) (c2:Nat) (w0:World) (h1:Bs w0 a c B) (h2:Bs w0 a2 c2 B):Calls Tryz.prog 13 #[.slice a B.length c,.slice a2 B.length c2] w0 (jR vT w0):=(same6_any a c B a2 c2 B w0 h1 h2).mono fun ε w' ⟨h,hb⟩=>⟨h.trans (by rw [decide_eq_true rfl]),hb⟩
open Go Go.ChangeShapes Go.WideShapes Go.RowKit
theorem laidOut:laidOutB Tryz.prog=true:=by kernel_rfl
theorem own:ownKnob Tryz.prog.godebug=none:=by kernel_rfl
theorem i64_of {x:Int} (h:(Lit.int .i64 x).wf=true): -9223372036854775808≤x∧x<9223372036854775808:=by
  simp [Lit.wf,IntKind.min,IntKind.max,IntKind.signed,IntKind.bits] at h
  omega
def zK:List (String × DataW Unit):=[("lightclient/sha.k",Rows.laid_lightclient_sha_k),("lightclient/sha.initial",Rows.laid_lightclient_sha_initial)]
def zsK:List Int:=kL.map fun (x:Nat)=>(x:Int)
def zsI:List Int:=[1779033703,3144134277,1013904242,2773480762,1359893119,2600822924,528734635,1541459225]
theorem kb_tab {W:World} {g:Nat} {zs:List Int} {C:Array Value} (hc:∀ i,i<zs.length→W.cell? ⟨g,i,none⟩=some (.int .u32 (zs.getD i 0))) (hC:C=(zs.map (Value.int .u32)).toArray):Kb W g C:=by
  intro i v hv
  rw [hC,List.getElem?_toArray,List.getElem?_map] at hv
  obtain ⟨z,hz,rfl⟩:=Option.map_eq_some_iff.1 hv
  have hi:=(List.getElem?_eq_some_iff.1 hz).1
  rw [hc i hi]
  simp [List.getD,hz]
theorem laid_two {W:World} (h:laidMetH Tryz.prog zK W):Kb W 1 (bY .u32 64 kN)∧Kb W 0 #[.int .u32 1779033703,.int .u32 3144134277,.int .u32 1013904242,.int .u32 2773480762,.int .u32 1359893119,.int .u32 2600822924,.int .u32 528734635,.int .u32 1541459225]:=by
  rw [MakeChecks.laidMetH_plain _ _ _ (by kernel_rfl)] at h
  obtain ⟨ps,⟨g0,t0,cs0,f0,p0,q0,hg0,ht0,hv0,hd0,⟨g1,t1,cs1,f1,p1,q1,hg1,ht1,hv1,hd1,_,_⟩,_⟩,_,_⟩:=h
  have n0:Tryz.prog.globalNamed "lightclient/sha.k" = some 1:=by kernel_rfl
  have n1:Tryz.prog.globalNamed "lightclient/sha.initial" = some 0:=by kernel_rfl
  obtain rfl:=Option.some.inj (n0.symm.trans hg0)
  obtain rfl:=Option.some.inj (n1.symm.trans hg1)
  obtain rfl:=Option.some.inj ((show (Tryz.prog.globals[1]?).map (·.type)=some 115 by kernel_rfl).symm.trans ht0)
  obtain rfl:=Option.some.inj ((show (Tryz.prog.globals[0]?).map (·.type)=some 104 by kernel_rfl).symm.trans ht1)
  have d0:(Rows.laid_lightclient_sha_k:DataW Unit)=Lib.tabData .u32 zsK:=by kernel_rfl
  have d1:(Rows.laid_lightclient_sha_initial:DataW Unit)=Lib.tabData .u32 zsI:=by kernel_rfl
  rw [d0] at hd0
  rw [d1] at hd1
  have c0:=Lib.cells_of_tab Tryz.underlying115 Tryz.underlying41 (by kernel_rfl) (by kernel_rfl) hd0
  have c1:=Lib.cells_of_tab Tryz.underlying104 Tryz.underlying41 (by kernel_rfl) (by kernel_rfl) hd1
  have i0:Lib.TabIs Tryz.prog W "lightclient/sha.k" .u32 zsK:=by unfold Lib.TabIs;rw [hv0,← c0]
  have i1:Lib.TabIs Tryz.prog W "lightclient/sha.initial" .u32 zsI:=by unfold Lib.TabIs;rw [hv1,← c1]
  exact ⟨kb_tab (fun i hi=>i0.cell n0 i hi) (by kernel_rfl),kb_tab (fun i hi=>i1.cell n1 i hi) (by kernel_rfl)⟩
theorem door_met (os:Os) (args:Array Value):laidMetH Tryz.prog zK ((World.doorLaid Tryz.prog 400 os).forCall (fun _ _=>0) ⟨#[],args,[]⟩).memory :=
  laidMetH_of_parts3 (fuel:=8) (laidMet_of_run' 8 (by kernel_rfl) (by kernel_rfl)) (by kernel_rfl) (by kernel_rfl)
section
variable {H : Type} {enc : TypeId × Value → H} {w : World} {base : Nat} {spare : Nat → Bool} {held : Bool} {fuel : Nat} {cs : List Value} {x : DataW H × List MemPlace}
end
theorem open_ilist {H : Type} {enc : TypeId × Value → H} {w : World} {r : Reach} {base base' : Nat} {held : Bool} {v : Value} {d : DataW H} {p : List MemPlace} {t e : TypeId} {k : IntKind} (ht : Tryz.prog.underlying t = some (.slice e)) (he : Tryz.prog.underlying e = some (.int k)) (hce : Tryz.prog.cellsOf e = 1)
    (hok:Value.okWide Tryz.prog w r base t v) (h:DataW.Trod enc Tryz.prog w base' (fun _=>true) held t v d p) (hs:∀ elems spare,d=.slice elems spare→elems.length+spare.length≤140737488351232) :
    ∃ a c zs,v=.slice a (List.length zs) c∧Is w k a c zs∧∀ z∈zs,(Lit.int k z).wf=true:=by
  obtain ⟨a0,len,cap,rfl⟩:=okWide_slice ht hok
  obtain ⟨fuel,hf⟩:=h
  rcases open_ints ht he hce hf with ⟨hcs,_⟩ | ⟨a,len',cap',zs,hcs,_,hle,_,hlen,hx,hcell,hwf⟩
  · simp [Value.cells] at hcs
    obtain ⟨rfl,rfl,rfl⟩:=hcs
    exact ⟨none,0,[],rfl,Is.nil,by simp⟩
  · simp [Value.cells] at hcs
    obtain ⟨rfl,rfl,rfl⟩:=hcs
    simp only [if_true] at hlen
    have hd:=congrArg Prod.fst hx
    have hsz:=hs _ _ hd
    have hsz':zs.length≤140737488351232:=by simpa [lits,hlen,hle] using hsz
    refine ⟨some a,cap,zs.take len,?_,⟨?_,?_,?_⟩,fun z hz=>hwf z (List.mem_of_mem_take hz)⟩
    · rw [List.length_take,Nat.min_eq_left (by omega)]
    · rw [List.length_take];omega
    · rw [List.length_take];omega
    · refine Or.inr ⟨a, rfl, ?_⟩
      intro i u hu
      unfold iv at hu
      rw [List.getElem?_map] at hu
      obtain ⟨z,hz,rfl⟩:=Option.map_eq_some_iff.1 hu
      have hi:i<zs.length:=by
        have:=(List.getElem?_eq_some_iff.1 hz).1
        rw [List.length_take] at this
        omega
      have hzi:zs.getD i 0=z:=by
        rw [List.getElem?_take] at hz
        split at hz
        · simp [List.getD,hz]
        · exact absurd hz (by simp)
      rw [hcell i hi,hzi]
end Go.Proofs.YtaebcmpbbamfpaaGreatDoor
