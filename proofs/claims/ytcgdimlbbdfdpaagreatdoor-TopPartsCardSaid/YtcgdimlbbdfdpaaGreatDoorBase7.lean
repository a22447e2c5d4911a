/-
  What this statement needs, part 7: the texts of it, one behind the other.
-/
import Derived.Test.YtcgdimlbbdfdpaaGreatDoorBase4
import Derived.Test.YtcgdimlbbdfdpaaGreatDoorBase6
set_option maxRecDepth 100000
set_option linter.all false
namespace Go.Proofs.YtcgdimlbbdfdpaaGreatDoor
open Go Go.RowKit _root_.Go.Proofs.Tryz
theorem dbit_eq (lo i:Nat) (h:i<256):2*dLo lo i / M=lo / 2^(255-i)%2:=by
 have h1:=dT_step 0 lo i h
 rw [Nat.zero_mul,Nat.zero_add] at h1
 unfold dT at h1
 have e:256-i=(255-i)+1:=by omega
 rw [show 256-(i+1)=255-i by omega,e,Nat.pow_succ,<- Nat.div_div_eq_div_mul] at h1
 have:=dbit lo i
 omega
theorem top_bit {r:Nat} (h:r<M):vH r 255=decide (M<=2*r):=by
 unfold vH
 rw [decide_eq_decide]
 have e:(2:Nat)^255=57896044618658097711785492504343953926634992332820282019728792003956564819968:=by decide +kernel
 rw [e,lW] at *
 omega
theorem dbl_plus {r c:Nat} (hc:c<=1):(r+r)%M+c=(2*r+c)%M/\(r+r)%M%2=0:=by
 rw [lW] at *;omega
set_option maxHeartbeats 1000000 in
theorem rdiv_no (hi lo b:Nat) (w:World) (h1:hi<M) (h3:b<M) (hle:b<=hi) :
 Calls prog 207 #[U hi,U lo,U b] w fun e w'=>e=.returned (.tuple #[U 0,U 0,.bool false])/\Below w.heap.size w w':=by
 have hc:nG b hi<=0:=by unfold nG;split<;>(try split)<;>omega
 go_enter func207,Tryz.ntmps207
 go_wp2_with fail
 refine (rcmp_any b hi _ h3 h1).mono ?_;rintro e w1 ⟨rfl,hb⟩
 have O3:Own w1 (w.heap.size+1+1+1) #[.int .u64 0,.int .u64 0,.int .u64 0,.int .u64 0]:=Own.below (hp_5_3 _ _ _ _ _ _) hb
 have O4:Own w1 (w.heap.size+1+1+1+1) #[.int .u64 0,.int .u64 0,.int .u64 0,.int .u64 0]:=Own.below (hp_5_4 _ _ _ _ _ _) hb
 have hb':Below w.heap.size w w1:=Below.trans (by (exact bt)) (hb.mono (by simp only [World.size_alloc];omega))
 clear hb
 have c3:=O3.cell;have f3:=O3.free;have c4:=O4.cell;have f4:=O4.free
 go_wp2
 go_region
 go_wp2
 refine bodyPost_ret (xM rfl _ _ _ _ _ _ rfl rfl ((O3.set4 _ _ _ _).other4 om _ _ _ _).drew ((O4.other4 om _ _ _ _).set4 _ _ _ _).drew rfl rfl) rfl ?_
 refine ⟨ret_UUb U0_eq U0_eq rfl,?_⟩
 (exact bt)
def RDivW (w wr:World) (hi lo b i:Nat):Prop :=
 Below w.heap.size w wr /\
 Own wr (w.heap.size+1) (cU lo)/\Own wr (w.heap.size+1+1) (cU b) /\
 Own wr (w.heap.size+1+1+1) (cU (dQ (hi*M+lo) b i))/\Own wr (w.heap.size+1+1+1+1) (cU (dR (hi*M+lo) b i))
set_option maxHeartbeats 4000000 in
theorem rdiv_yes (hi lo b:Nat) (w:World) (h1:hi<M) (h2:lo<M) (h3:b<M) (hle:hi<b) :
 Calls prog 207 #[U hi,U lo,U b] w fun e w'=>e=.returned (.tuple #[U ((hi*M+lo) / b),U ((hi*M+lo)%b),.bool true])/\Below w.heap.size w w':=by
 have hc:0<nG b hi:=by rw [cmpN_gt hle];omega
 go_enter func207,Tryz.ntmps207
 go_wp2_with fail
 refine (rcmp_any b hi _ h3 h1).mono ?_;rintro e w1 ⟨rfl,hb⟩
 have O0:Own w1 w.heap.size (cU hi):=Own.below (hp_5_0 _ _ _ _ _ _) hb
 have O1:Own w1 (w.heap.size+1) (cU lo):=Own.below (hp_5_1 _ _ _ _ _ _) hb
 have O2:Own w1 (w.heap.size+1+1) (cU b):=Own.below (hp_5_2 _ _ _ _ _ _) hb
 have O3:Own w1 (w.heap.size+1+1+1) #[.int .u64 0,.int .u64 0,.int .u64 0,.int .u64 0]:=Own.below (hp_5_3 _ _ _ _ _ _) hb
 have O4:Own w1 (w.heap.size+1+1+1+1) #[.int .u64 0,.int .u64 0,.int .u64 0,.int .u64 0]:=Own.below (hp_5_4 _ _ _ _ _ _) hb
 have hB:Below w.heap.size w w1:=Below.trans (by (exact bt)) (hb.mono (by simp only [World.size_alloc];omega))
 clear hb
 have c0:=O0.cell;have c4:=O4.cell;have f4:=O4.free
 go_wp2
 go_loopg [9] 256 (fun k p wr=>k<=256/\p=.int .i64 (k-1)/\RDivW w wr hi lo b (256-k))
 case atStart =>
  obtain ⟨e1,e2⟩:=d_start h2 hle
  refine ⟨by omega,rfl,?_,?_,?_,?_,?_⟩
  ·(exact bt)
  ·exact O1.other4 om _ _ _ _
  ·exact O2.other4 om _ _ _ _
  ·rw [Nat.sub_self,e2,cU,kW,kW,kW,kW];exact O3.other4 om _ _ _ _
  ·rw [Nat.sub_self,e1];exact O4.set4 _ _ _ _
 case round =>
  obtain ⟨hk,rfl,hW⟩:=hrel
  by_cases hk0:gk=0
  ·subst hk0
   obtain ⟨B0,P1,P2,P3,P4⟩:=hW
   obtain ⟨y1,y2⟩:=d_end (hi*M+lo) b
   rw [Nat.sub_zero,y1] at P4
   rw [Nat.sub_zero,y2] at P3
   clear y1 y2 P1
   obtain ⟨r,er⟩:∃ r,r=(hi*M+lo)%b:=⟨_,rfl⟩
   obtain ⟨q,eq⟩:∃ q,q=(hi*M+lo) / b:=⟨_,rfl⟩
   rw [<- er] at P4;rw [<- eq] at P3
   have ER:=Lib.hid er;have EQ:=Lib.hid eq
   clear er eq
   have c3:=P3.cell;have f3:=P3.free;have c4':=P4.cell;have f4':=P4.free
   go_wp2
   go_region
   go_wp2
   refine bodyPost_ret (xM rfl _ _ _ _ _ _ rfl rfl ((P3.set4 _ _ _ _).other4 om _ _ _ _).drew ((P4.other4 om _ _ _ _).set4 _ _ _ _).drew rfl rfl) rfl ?_
   rw [<- ER.out,<- EQ.out]
   refine ⟨rfl,?_⟩
   (exact bt)
  ·obtain ⟨m, rfl⟩ : ∃ m, gk = m + 1 := ⟨gk - 1, by omega⟩
   have eg:((m+1:Nat):Int)-1=m:=by omega
   rw [eg]
   clear eg
   obtain ⟨i,hi2⟩:∃ i,i=256-(m+1):=⟨_,rfl⟩
   rw [<- hi2] at hW
   have HI:Hid (i+m=255):=by show _=_;omega
   have i256:i<256:=by omega
   have m256:m<256:=by omega
   have p255:255-i=m:=by omega
   clear hi2
   obtain ⟨B0,P1,P2,P3,P4⟩:=hW
   obtain ⟨r,er⟩:∃ r,r=dR (hi*M+lo) b i:=⟨_,rfl⟩
   obtain ⟨q,eq⟩:∃ q,q=dQ (hi*M+lo) b i:=⟨_,rfl⟩
   obtain ⟨c,ec⟩:∃ c:Nat,c=2*dLo lo i / M:=⟨_,rfl⟩
   have c1:c<=1:=by rw [ec];exact dbit lo i
   have rlt:r<M:=by rw [er];exact Nat.lt_trans (dR_lt _ b i om) h3
   obtain ⟨s,es⟩:∃ s,s=(r+r)%M:=⟨_,rfl⟩
   obtain ⟨r1,er1⟩:∃ r1,r1=(2*r+c)%M:=⟨_,rfl⟩
   obtain ⟨r2,er2⟩:∃ r2,r2=(r1+M-b)%M:=⟨_,rfl⟩
   obtain ⟨sc,sev⟩:=dbl_plus (r:=r) c1
   rw [<- es,<- er1] at sc
   rw [<- es] at sev
   have r1lt:r1<M:=by rw [er1];exact Nat.mod_lt _ M_pos
   have slt:s<M:=by rw [es];exact Nat.mod_lt _ M_pos
   have D1:Hid (∀ W,Calls prog 152 #[U r,.int .i64 255] W fun e w'=>e=.returned (.bool (decide (M<=2*r)))/\Below W.heap.size W w'):=by
    intro W
    have h:=tY r 255 W om
    rw [top_bit rlt] at h;exact h
   have D2:Hid (∀ W,Calls prog 255 #[U r,U r] W fun e w'=>e=.returned (.tuple #[U s,.bool (decide (M<=r+r))])/\Below W.heap.size W w'):=by
    intro W
    have h:=radd_any r r W rlt rlt
    rw [<- es] at h;exact h
   have D3:Hid (∀ W,Calls prog 152 #[U lo,.int .i64 m] W fun e w'=>e=.returned (.bool (decide (c=1)))/\Below W.heap.size W w'):=by
    intro W
    have h:=tY lo m W m256
    rw [show vH lo m=decide (c=1) by unfold vH;rw [ec,dbit_eq lo i i256,p255]] at h;exact h
   have D4:Hid (∀ W,Calls prog 150 #[U r1,U b] W fun e w'=>e=.returned (.int .i64 (nG r1 b))/\Below W.heap.size W w'):=fun W=>rcmp_any r1 b W r1lt h3
   have D5:Hid (∀ W,Calls prog 256 #[U r1,U b] W fun e w'=>e=.returned (.tuple #[U r2,.bool (decide (r1<b))])/\Below W.heap.size W w'):=by
    intro W
    have h:=rsub_any r1 b W r1lt h3
    rw [<- er2] at h;exact h
   have BITR:Hid (c=1->(cU s).setIfInBounds 0 (.int .u64 (bits .or .u64 (wd s 0) 1))=cU r1):=by
    intro h
    have hs:=kY s 0 0 om om (by simpa using sev)
    simp only [Nat.mul_zero,Nat.add_zero,Nat.pow_zero] at hs
    have hp:(2:Int)^0=1:=rfl
    rw [hp] at hs
    rw [hs];congr 1;omega
   have SAME:Hid (c=0->s=r1):=by intro h;show s=r1;omega
   have p1:255-i=64*(m / 64)+m%64:=by omega
   have YES:Hid (b<=2*r+c->dR (hi*M+lo) b (i+1)=r2/\dQ (hi*M+lo) b (i+1)=q+2^(64*(m / 64)+m%64)/\q%2^(64*(m / 64)+m%64+1)=0):=by
    intro hge
    have hq:=dQ_low (hi*M+lo) b i i256
    rw [er,ec] at hge
    obtain ⟨y1,y2⟩:=d_yes hi lo b i om i256 hge
    have hlt:=dR_lt (hi*M+lo) b (i+1) om
    rw [y1,<- er,<- ec] at hlt
    rw [<- er,<- ec] at hge
    rw [y1,y2,<- er,<- ec,<- eq,p1,er2,er1,step_r2 hge om h3]
    rw [<- eq,p1] at hq
    exact ⟨rfl,rfl,hq⟩
   have NO:Hid (2*r+c<b->dR (hi*M+lo) b (i+1)=r1/\dQ (hi*M+lo) b (i+1)=q):=by
    intro hge
    rw [er,ec] at hge
    obtain ⟨y1,y2⟩:=d_no hi lo b i om i256 hge
    rw [<- er,<- ec] at hge
    rw [y1,y2,<- er,<- ec,<- eq,er1,Nat.mod_eq_of_lt om]
    exact ⟨rfl,rfl⟩
   have ei:256-m=i+1:=by have:=HI.out;omega
   have hv1:M<=2*r->b<=2*r+c:=by intro h;omega
   have hv0: ¬ M<=2*r->r1=2*r+c:=by
    intro h
    rw [er1]
    apply Nat.mod_eq_of_lt
    rw [lW] at *;omega
   rw [<- er] at P4;rw [<- eq] at P3
   have HV1:=Lib.hid hv1;have HV0:=Lib.hid hv0;have EI:=Lib.hid ei
   have C1:=Lib.hid c1
   clear er eq ec es er1 er2 sc sev hv1 hv0 ei p1 p255 c1
   have hbits:(decide (c=1)=true/\c=1)\/(decide (c=1)=false/\c=0):=by
    have:=C1.out
    by_cases h:c=1
    ·exact Or.inl ⟨decide_eq_true h,h⟩
    ·exact Or.inr ⟨decide_eq_false h,by omega⟩
   have cc4:=P4.cell
   go_wp2_with fail
   refine (D1.out _).mono ?_;rintro e wx ⟨rfl,hbx⟩
   have Q1:=P1.below hbx;have Q2:=P2.below hbx;have Q3:=P3.below hbx;have Q4:=P4.below hbx;have BX:Below w.heap.size w wx:=B0.trans (hbx.mono B0.size);clear hbx B0 P1 P2 P3 P4
   obtain ⟨P1,P2,P3,P4,B0⟩:Own wx (w.heap.size+1) (cU lo)/\Own wx (w.heap.size+1+1) (cU b)/\Own wx (w.heap.size+1+1+1) (cU q)/\Own wx (w.heap.size+1+1+1+1) (cU r)/\Below w.heap.size w wx:=⟨Q1,Q2,Q3,Q4,BX⟩;clear Q1 Q2 Q3 Q4 BX
   obtain ⟨wa,rfl⟩:∃ wa:World,wa=wx:=⟨_,rfl⟩
   clear cc4
   have cc4:=P4.cell
   go_wp2_with fail
   refine (D2.out _).mono ?_;rintro e wx ⟨rfl,hbx⟩
   have Q1:=P1.below hbx;have Q2:=P2.below hbx;have Q3:=P3.below hbx;have Q4:=P4.below hbx;have BX:Below w.heap.size w wx:=B0.trans (hbx.mono B0.size);clear hbx B0 P1 P2 P3 P4
   obtain ⟨P1,P2,P3,P4,B0⟩:Own wx (w.heap.size+1) (cU lo)/\Own wx (w.heap.size+1+1) (cU b)/\Own wx (w.heap.size+1+1+1) (cU q)/\Own wx (w.heap.size+1+1+1+1) (cU r)/\Below w.heap.size w wx:=⟨Q1,Q2,Q3,Q4,BX⟩;clear Q1 Q2 Q3 Q4 BX
   clear cc4
   have cc4:=P4.cell;have ff4:=P4.free;have cc1:=P1.cell
   go_wp2_with fail
   refine (D3.out _).mono ?_;rintro e wy ⟨rfl,hby⟩
   have R1:=(P1.other4 om _ _ _ _).below hby;have R2:=(P2.other4 om _ _ _ _).below hby;have R3:=(P3.other4 om _ _ _ _).below hby;have R4:=(P4.set4 _ _ _ _).below hby
   have BY:Below w.heap.size w wy:=Below.trans (by (exact bt)) (hby.mono (by simp;have:=B0.size;omega))
   clear cc4 ff4 cc1 hby P1 P2 P3 P4 B0
   have hm0:(0:Int)<=(m:Int):=by omega
   rcases hbits with ⟨hbt,hc1⟩ | ⟨hbt,hc0⟩
   ·have hrow := BITR.out hc1
    have hrow': #[Value.int .u64 (bits .or .u64 (wd s 0) 1),.int .u64 (wd s 1),.int .u64 (wd s 2),.int .u64 (wd s 3)]=cU r1:=hrow
    simp only [cU,Array.mk.injEq,List.cons.injEq,Value.int.injEq,true_and,and_true] at hrow'
    obtain ⟨e0,e1,e2,e3⟩:=hrow'
    have T1:=R1.other (g':=w.heap.size+1+1+1+1) (i:=0) om (.int .u64 (wd r1 0));have T2:=R2.other (g':=w.heap.size+1+1+1+1) (i:=0) om (.int .u64 (wd r1 0));have T3:=R3.other (g':=w.heap.size+1+1+1+1) (i:=0) om (.int .u64 (wd r1 0))
    have T4:Own (wy.setCell ⟨w.heap.size+1+1+1+1,0,none⟩ (.int .u64 (wd r1 0))) (w.heap.size+1+1+1+1) (cU r1):=by
     have h:=R4.set (i:=0) (.int .u64 (wd r1 0))
     rw [<- e0] at h ⊢
     rw [<- hrow];exact h
    have BT:Below w.heap.size w (wy.setCell ⟨w.heap.size+1+1+1+1,0,none⟩ (.int .u64 (wd r1 0))):=by (exact bt)
    have cc4:=R4.cell;have ff4:=R4.free;have cc2:=R2.cell
    clear hrow hc1 BY
    by_cases hov:M<=2*r
    ·have hd : decide (M <= 2 * r) = true := decide_eq_true hov
     have HGE:=Lib.hid (HV1.out hov)
     clear hov
     go_wp2_with fail
     refine (D5.out _).mono ?_;rintro e wz ⟨rfl,hbz⟩
     have S1:=T1.below hbz;have S2:=T2.below hbz;have S3:=T3.below hbz;have S4:=T4.below hbz
     have BS:=BT.trans (hbz.mono BT.size)
     clear cc4 ff4 cc2
     have cc4:=S4.cell;have ff4:=S4.free;have ff3:=S3.free
     have cg:wz.cell? ⟨w.heap.size+1+1+1,m / 64,none⟩=some (.int .u64 (wd q (m / 64))):=by rw [S3.cell,oJ q (m / 64) om]
     go_wp2
     go_region
     go_wp2
     go_roundg m
     case rel =>
      obtain ⟨y1,y2,y3⟩:=YES.out HGE.out
      rw [EI.out,vZ (m%64) om]
      refine ⟨by omega,rfl,?_,?_,?_,?_,?_⟩
      ·(exact bt)
      ·exact ((S1.other4 om _ _ _ _).other om _).drew
      ·exact ((S2.other4 om _ _ _ _).other om _).drew
      ·rw [y2,<- kY q (m / 64) (m%64) om om y3];exact ((S3.other4 om _ _ _ _).set _).drew
      ·rw [y1];exact ((S4.set4 _ _ _ _).other om _).drew
     case measure=>omega
    ·have hd : decide (M <= 2 * r) = false := decide_eq_false hov
     have hr1:=HV0.out hov
     clear hov
     by_cases hge:b<=2*r+c
     ·have hcm : 0 <= nG r1 b := cmp_ge om
      have HGE:=Lib.hid hge
      clear hr1 hge
      go_wp2_with fail
      refine (D4.out _).mono ?_;rintro e wv ⟨rfl,hbv⟩
      obtain ⟨V1,V2,V3,V4,BV⟩:Own wv (w.heap.size+1) (cU lo)/\Own wv (w.heap.size+1+1) (cU b)/\Own wv (w.heap.size+1+1+1) (cU q)/\Own wv (w.heap.size+1+1+1+1) (cU r1)/\Below w.heap.size w wv:=⟨T1.below hbv,T2.below hbv,T3.below hbv,T4.below hbv,BT.trans (hbv.mono BT.size)⟩
      clear cc4 ff4 cc2 hbv T1 T2 T3 T4 BT R1 R2 R3 R4
      have T1:=V1;have T2:=V2;have T3:=V3;have T4:=V4;have BT:=BV
      have cc4:=V4.cell;have ff4:=V4.free;have cc2:=V2.cell
      go_wp2_with fail
      refine (D5.out _).mono ?_;rintro e wz ⟨rfl,hbz⟩
      have S1:=T1.below hbz;have S2:=T2.below hbz;have S3:=T3.below hbz;have S4:=T4.below hbz
      have BS:=BT.trans (hbz.mono BT.size)
      clear cc4 ff4 cc2
      have cc4:=S4.cell;have ff4:=S4.free;have ff3:=S3.free
      have cg:wz.cell? ⟨w.heap.size+1+1+1,m / 64,none⟩=some (.int .u64 (wd q (m / 64))):=by rw [S3.cell,oJ q (m / 64) om]
      go_wp2
      go_region
      go_wp2
      go_roundg m
      case rel =>
       obtain ⟨y1,y2,y3⟩:=YES.out HGE.out
       rw [EI.out,vZ (m%64) om]
       refine ⟨by omega,rfl,?_,?_,?_,?_,?_⟩
       ·(exact bt)
       ·exact ((S1.other4 om _ _ _ _).other om _).drew
       ·exact ((S2.other4 om _ _ _ _).other om _).drew
       ·rw [y2,<- kY q (m / 64) (m%64) om om y3];exact ((S3.other4 om _ _ _ _).set _).drew
       ·rw [y1];exact ((S4.set4 _ _ _ _).other om _).drew
      case measure=>omega
     ·have hcm : nG r1 b < 0 := cmp_lt om
      have HGE:=Lib.hid hge
      clear hr1 hge
      go_wp2_with fail
      refine (D4.out _).mono ?_;rintro e wv ⟨rfl,hbv⟩
      have V1:=T1.below hbv;have V2:=T2.below hbv;have V3:=T3.below hbv;have V4:=T4.below hbv;have BV:=BT.trans (hbv.mono BT.size)
      go_wp2
      go_roundg m
      case rel =>
       obtain ⟨y1,y2⟩:=NO.out (by have:=HGE.out;omega)
       rw [EI.out]
       exact ⟨by omega,rfl,BV,V1,V2,by rw [y2];exact V3,by rw [y1];exact V4⟩
      case measure=>omega
   ·have hsr := SAME.out hc0
    rw [hsr] at R4
    clear hc0 hsr
    have T1:=R1;have T2:=R2;have T3:=R3;have T4:=R4;have BT:=BY
    have cc4:=R4.cell;have ff4:=R4.free;have cc2:=R2.cell
    by_cases hov:M<=2*r
    ·have hd : decide (M <= 2 * r) = true := decide_eq_true hov
     have HGE:=Lib.hid (HV1.out hov)
     clear hov
     go_wp2_with fail
     refine (D5.out _).mono ?_;rintro e wz ⟨rfl,hbz⟩
     have S1:=T1.below hbz;have S2:=T2.below hbz;have S3:=T3.below hbz;have S4:=T4.below hbz
     have BS:=BT.trans (hbz.mono BT.size)
     clear cc4 ff4 cc2
     have cc4:=S4.cell;have ff4:=S4.free;have ff3:=S3.free
     have cg:wz.cell? ⟨w.heap.size+1+1+1,m / 64,none⟩=some (.int .u64 (wd q (m / 64))):=by rw [S3.cell,oJ q (m / 64) om]
     go_wp2
     go_region
     go_wp2
     go_roundg m
     case rel =>
      obtain ⟨y1,y2,y3⟩:=YES.out HGE.out
      rw [EI.out,vZ (m%64) om]
      refine ⟨by omega,rfl,?_,?_,?_,?_,?_⟩
      ·(exact bt)
      ·exact ((S1.other4 om _ _ _ _).other om _).drew
      ·exact ((S2.other4 om _ _ _ _).other om _).drew
      ·rw [y2,<- kY q (m / 64) (m%64) om om y3];exact ((S3.other4 om _ _ _ _).set _).drew
      ·rw [y1];exact ((S4.set4 _ _ _ _).other om _).drew
     case measure=>omega
    ·have hd : decide (M <= 2 * r) = false := decide_eq_false hov
     have hr1:=HV0.out hov
     clear hov
     by_cases hge:b<=2*r+c
     ·have hcm : 0 <= nG r1 b := cmp_ge om
      have HGE:=Lib.hid hge
      clear hr1 hge
      go_wp2_with fail
      refine (D4.out _).mono ?_;rintro e wv ⟨rfl,hbv⟩
      obtain ⟨V1,V2,V3,V4,BV⟩:Own wv (w.heap.size+1) (cU lo)/\Own wv (w.heap.size+1+1) (cU b)/\Own wv (w.heap.size+1+1+1) (cU q)/\Own wv (w.heap.size+1+1+1+1) (cU r1)/\Below w.heap.size w wv:=⟨T1.below hbv,T2.below hbv,T3.below hbv,T4.below hbv,BT.trans (hbv.mono BT.size)⟩
      clear cc4 ff4 cc2 hbv T1 T2 T3 T4 BT R1 R2 R3 R4
      have T1:=V1;have T2:=V2;have T3:=V3;have T4:=V4;have BT:=BV
      have cc4:=V4.cell;have ff4:=V4.free;have cc2:=V2.cell
      go_wp2_with fail
      refine (D5.out _).mono ?_;rintro e wz ⟨rfl,hbz⟩
      have S1:=T1.below hbz;have S2:=T2.below hbz;have S3:=T3.below hbz;have S4:=T4.below hbz
      have BS:=BT.trans (hbz.mono BT.size)
      clear cc4 ff4 cc2
      have cc4:=S4.cell;have ff4:=S4.free;have ff3:=S3.free
      have cg:wz.cell? ⟨w.heap.size+1+1+1,m / 64,none⟩=some (.int .u64 (wd q (m / 64))):=by rw [S3.cell,oJ q (m / 64) om]
      go_wp2
      go_region
      go_wp2
      go_roundg m
      case rel =>
       obtain ⟨y1,y2,y3⟩:=YES.out HGE.out
       rw [EI.out,vZ (m%64) om]
       refine ⟨by omega,rfl,?_,?_,?_,?_,?_⟩
       ·(exact bt)
       ·exact ((S1.other4 om _ _ _ _).other om _).drew
       ·exact ((S2.other4 om _ _ _ _).other om _).drew
       ·rw [y2,<- kY q (m / 64) (m%64) om om y3];exact ((S3.other4 om _ _ _ _).set _).drew
       ·rw [y1];exact ((S4.set4 _ _ _ _).other om _).drew
      case measure=>omega
     ·have hcm : nG r1 b < 0 := cmp_lt om
      have HGE:=Lib.hid hge
      clear hr1 hge
      go_wp2_with fail
      refine (D4.out _).mono ?_;rintro e wv ⟨rfl,hbv⟩
      have V1:=T1.below hbv;have V2:=T2.below hbv;have V3:=T3.below hbv;have V4:=T4.below hbv;have BV:=BT.trans (hbv.mono BT.size)
      go_wp2
      go_roundg m
      case rel =>
       obtain ⟨y1,y2⟩:=NO.out (by have:=HGE.out;omega)
       rw [EI.out]
       exact ⟨by omega,rfl,BV,V1,V2,by rw [y2];exact V3,by rw [y1];exact V4⟩
      case measure=>omega
def divQ (hi lo b:Nat):Nat:=if b<=hi then 0 else (hi*M+lo) / b
def divR (hi lo b:Nat):Nat:=if b<=hi then 0 else (hi*M+lo)%b
theorem div_any (hi lo b:Nat) (w:World) (h1:hi<M) (h2:lo<M) (h3:b<M) :
 Calls prog 110 #[U hi,U lo,U b] w fun e w'=>e=.returned (.tuple #[U (divQ hi lo b),U (divR hi lo b),.bool (decide (hi<b))])/\Below w.heap.size w w':=by
 unfold divQ divR
 by_cases h:b<=hi
 ·rw [if_pos h,if_pos h,decide_eq_false om];exact div_no hi lo b w h1 h3 h
 ·rw [if_neg h,if_neg h,decide_eq_true om];exact div_yes hi lo b w h1 h2 h3 om
theorem rdiv_any (hi lo b:Nat) (w:World) (h1:hi<M) (h2:lo<M) (h3:b<M) :
 Calls prog 207 #[U hi,U lo,U b] w fun e w'=>e=.returned (.tuple #[U (divQ hi lo b),U (divR hi lo b),.bool (decide (hi<b))])/\Below w.heap.size w w':=by
 unfold divQ divR
 by_cases h:b<=hi
 ·rw [if_pos h,if_pos h,decide_eq_false om];exact rdiv_no hi lo b w h1 h3 h
 ·rw [if_neg h,if_neg h,decide_eq_true om];exact rdiv_yes hi lo b w h1 h2 h3 om
end Go.Proofs.YtcgdimlbbdfdpaaGreatDoor
