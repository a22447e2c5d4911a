/-
  What this statement needs, part 2: the texts of it, one behind the other.
-/
import Derived.Test.YtegagmoldjiaaaaGreatDoorBase1
import Derived.Deep.WholeRow
import Derived.Deep.LoopGhost
import Derived.WalkMore
import Derived.Shelf.Strconv.Itoa0
import Derived.Shelf.Bits.Mul64
import Derived.Test.YtegagmoldjiaaaaGreatDoorProg
import Derived.Lib.BitFns
import Derived.WalkKit
import Derived.Test.YtegagmoldjiaaaaGreatDoorChecked
import Derived.Lib.ItoaLen
import Derived.Laws.Slices
import Derived.Lib.ParseIntB
import Derived.Lib.ParseIntBCases
import Derived.Lib.Small
import Derived.Lib.AtoiErrMem
set_option maxRecDepth 100000
set_option linter.all false
namespace Go.Proofs.YtegagmoldjiaaaaGreatDoor
open Go Go.RowKit _root_.Go.Proofs.Tryz
open Go.Lib renaming trimPrefix→NC,hasPrefix→ND
open Go renaming Value→Ns,World→Nu,Program→Nv,TypeId→Nw,IntKind→Ny,FuncId→Nz
open _root_.List renaming length_append→II,replicate→IU,getElem?_eq_getElem→IX,mem_singleton→IY,all_eq_true→I5,append_assoc→I8,take_of_length_le→I9,getD_eq_getElem?_getD→Jh,mem_cons_self→Ji,mem_cons_of_mem→Jj,mem_map→Jk,getElem?_eq_some_iff→Jl,mem_iff_getElem?→Jo,length_drop→Jv,mem_append→Jw,drop_eq_nil_of_le→Jz,mem_cons→JC,getElem?_map→JI,flatMap_append→JL,length_cons→JO,eq_nil_of_length_eq_zero→JP,eraseIdx_sublist→JX,flatMap_cons→JZ,mem_of_getElem?→J7,take_length→J9,Sublist→Kq,getElem?_zip_eq_some→Kr,map_cons→Kv,drop_of_length_le→KI,take_succ_eq_append_getElem→KN,length_replicate→KO,length_take→KR,mem_of_mem_tail→KY,drop_append_of_le_length→KZ,mem_of_mem_drop→La,mem_of_mem_take→Lc,append_nil→Ld,length_map→Le,length_nil→Lh,drop_eq_getElem_cons→Lu,length→LH,length_tail→LP,nodup_cons→LZ,mem_range→Me,length_take_le'→MC,replicate_succ→MG,map_replicate→MO,range→MQ,getElem_range→MR
open _root_.Nat renaming mul_comm→IJ,mod_eq_of_lt→IK,mul_assoc→IL,div_div_eq_div_mul→IM,div_eq_of_lt→IP,le_refl→IR,pow_le_pow_right→IW,pow_succ→IZ,pow_pos→I4,lt_of_lt_of_le→Ja,pow_add→Jd,mul_le_mul_right→Je,add_mul_div_right→Jf,add_mul→Jg,div_lt_iff_lt_mul→Jn,le_trans→Jq,two_pow_add_eq_or_of_lt→Jr,mod_lt→Js,add_mul_mod_self_right→JD,div_add_mod→JF,pow_lt_pow_right→JH,add_comm→JQ,zero_add→JR,add_zero→JS,pow_succ'→JV,mul_lt_mul_of_pos_right→JY,one_mul→J5,lt_trans→J8,min_eq_left→Kz,pow_zero→KC,zero_mul→KD,mul_le_mul→KF,and_two_pow_sub_one_eq_mod→KT,pow_mul→KW,mul_div_cancel→Ll,log2→Lm,mod_two_eq_zero_or_one→Lt,mul_mod_left→LK,sub_self→LQ,lt_of_div_eq_zero→L6,le_of_ble_eq_true→L8,log2_lt→L9,mul_mod→Mc,two_mul→Md,add_assoc→MH,reduceAdd→MI,lt_of_le_of_lt→MM,sub_zero→MS,add_mod→Nc,div_one→Nk
open Go.Lib renaming hid→IQ,parseUintM→Jp,parseUintB→Jt,decDigits→JK,decDigits_length→MB
open _root_.Bool renaming and_false→IV,and_eq_true→Jb,false_and→JM,true_and→MK,eq_false_iff→MX
open Go.IntKind renaming u64→I7,u32→J6,wrap_u64→KP,wrap_u32→KU,i64→LD,u8→MN,wrap→MW,signed→Np
open Go.Next renaming value→Jc
open _root_.Int renaming toNat_natCast→Jm,eq_ofNat_of_zero_le→KA,emod_lt_of_pos→Ls,mul_left_comm→LC,emod_nonneg→LY,mul_assoc→MJ,natAbs_natCast→MP,tmod→MV,mul_add→Nh,add_mul→Nj
open _root_.Or renaming inl→Ju,inr→JW
open _root_.Array renaming length_toList→Jy,toList_append→Kt,getElem?_eq_none→KE,toArray_toList→KX,getElem?_setIfInBounds→Lj,toList_setIfInBounds→Lp,getElem?_push→MF,ext_getElem?→ML
open Go.RowKit.Below renaming trans→JA
open _root_.Option renaming some→JB,map_some→JG,isSome_iff_exists→LJ
open _root_.UInt8 renaming toNat_ofNat'→JE,ofNat→LG
open Go.Result renaming andThen_ok→JJ
open Go.Builtin renaming append_→JU,zeroCells→J4
open Go.Instr renaming loadAt→Ko,indexAt→Ku,sliceAt→Kw,sureAddr→Lr,sliceBounds→MZ
open Go.IntWalk renaming i64_in→KG
open _root_.BitVec renaming ofNat→KH,toNat_xor→Na,toNat_sub→Nb
open Go.Sem renaming run_bind→KJ,run_pure→KL
open Go.World renaming size_alloc→KQ,cell?→Nl
open Go.Value renaming int→LM,agg→Nr
open _root_.ByteArray renaming data_extract→LV,ext→Nq
open Go.Ending renaming returned→LW
open Go.Exit renaming noGoto_ret→LX
variable {p b i:Nat}
theorem M_pow:M=2^256:=by rw [wZ]
theorem B64_pow:(18446744073709551616:Nat)=2^64:=rfl
theorem Gi (A i:Nat):wd A i=((A / 2^(64*i)%2^64:Nat):Int):=by
 unfold wd;rw [B64_pow,<- KW]
theorem Dz {q:Nat} (h:q%2^(p+1)=0):∃ a,q=a*2^(p+1) :=
 ⟨q / 2^(p+1),by have:=JF q (2^(p+1));rw [h] at this;rw [IJ];omega⟩
theorem setbit_hi (q p j:Nat) (h:q%2^(p+1)=0) (hj:p+1<=64*j):wd (q+2^p) j=wd q j:=by
 rw [Gi,Gi]
 congr 2
 obtain ⟨a,rfl⟩:=Dz h
 have e:64*j=(p+1)+(64*j-(p+1)):=by omega
 have e2:2^(64*j)=2^(p+1)*2^(64*j-(p+1)):=by rw [<- Jd,<- e]
 rw [e2,<- IM,<- IM]
 have hp:0<2^(p+1):=I4 dC
 have h1:(a*2^(p+1)+2^p) / 2^(p+1)=a:=by
  rw [JQ,Jf _ _ hp,IP (JH dC om)];omega
 rw [h1,Ll _ hp]
theorem setbit_lo (q p j:Nat) (hj:64*(j+1)<=p):wd (q+2^p) j=wd q j:=by
 rw [Gi,Gi]
 congr 1
 have hp:0<2^(64*j):=I4 dC
 have e:2^p=2^(p-64*j-64)*2^64*2^(64*j):=by rw [<- Jd,<- Jd];congr 1;omega
 rw [e,Jf _ _ hp,JD]
theorem setbit_at (q j b:Nat) (hb:b<64) (h:q%2^(64*j+b+1)=0):bits .or .u64 (wd q j) (2^b)=wd (q+2^(64*j+b)) j:=by
 rw [Gi,Gi]
 obtain ⟨a,rfl⟩:=Dz h
 have hp:0<2^(64*j):=I4 dC
 have e1:a*2^(64*j+b+1)=a*2^(b+1)*2^(64*j):=by rw [IL,<- Jd];congr 2;omega
 have e2:2^(64*j+b)=2^b*2^(64*j):=by rw [<- Jd];congr 1;omega
 rw [e2,Jf _ _ hp,e1,Ll _ hp]
 have e3:2^64=2^(63-b)*2^(b+1):=by rw [<- Jd];congr 1;omega
 have e4:a*2^(b+1)%2^64=a%2^(63-b)*2^(b+1):=by rw [e3,Nat.mul_mod_mul_right]
 have hl:a%2^(63-b)<2^(63-b):=Js _ (I4 dC)
 have hb2:2^(b+1)=2*2^b:=by rw [IZ];omega
 have hpb:0<2^b:=I4 dC
 have hle:(a%2^(63-b)+1)*2^(b+1)<=2^64:=by rw [e3];exact Je _ hl
 have e5:(a*2^(b+1)+2^b)%2^64=a%2^(63-b)*2^(b+1)+2^b:=by
  rw [Nc,e4,IK (a:=2^b) (JH dC hb),IK]
  rw [Jg] at hle;omega
 rw [e5,e4]
 rw [Jg] at hle
 have hc:((2:Int)^b)=((2^b:Nat):Int):=by simp
 have hlt1:a%2^(63-b)*2^(b+1)<18446744073709551616:=by rw [B64_pow];omega
 have hlt2:2^b<18446744073709551616:=by rw [B64_pow];omega
 rw [hc,bits_or_u64_nat _ _ hlt1 hlt2]
 congr 1
 exact or_add _ _ _ (JH dC om)
def dT (N i:Nat):Nat:=N / 2^(256-i)
def dLo (lo i:Nat):Nat:=lo*2^i%M
def dR (N b i:Nat):Nat:=dT N i%b
def dQ (N b i:Nat):Nat:=dT N i / b*2^(256-i)
theorem dLo_lt (lo i:Nat):dLo lo i<M:=Js _ (by rw [wZ];decide)
theorem dLo_zero {lo:Nat} (h:lo<M):dLo lo 0=lo:=by unfold dLo;rw [KC,Nat.mul_one,IK h]
theorem dLo_step (lo i:Nat):2*dLo lo i%M=dLo lo (i+1):=by
 unfold dLo;rw [Nat.mul_mod_mod,IZ];congr 1;rw [IJ 2,IL]
theorem dT_zero {hi lo:Nat} (h:lo<M):dT (hi*M+lo) 0=hi:=by
 unfold dT;rw [MS,<- M_pow,JQ,Jf _ _ (by rw [wZ];decide),IP h];omega
theorem dT_step (hi lo i : Nat) (h : i < 256) : dT (hi * M + lo) (i + 1) = 2 * dT (hi * M + lo) i + 2 * dLo lo i / M := by
 unfold dT dLo
 rw [M_pow] at *
 have e0:256-i=(256-(i+1))+1:=by omega
 generalize hk:256-(i+1)=k at *
 rw [e0]
 have hi':i=255-k:=by omega
 have hlo:=JF lo (2^(k+1))
 have hv:lo%2^(k+1)<2^(k+1):=Js _ (I4 dC)
 generalize lo / 2^(k+1)=u at *
 generalize lo%2^(k+1)=v at *
 have pk:2^(k+1)=2*2^k:=by rw [IZ];omega
 have p0:0<2^k:=I4 dC
 have p256:(2:Nat)^256=2^(255-k)*2^(k+1):=by rw [<- Jd];congr 1;omega
 have e1:(hi*2^256+lo) / 2^(k+1)=hi*2^(255-k)+u:=by
  rw [p256,<- hlo,show hi*(2^(255-k)*2^(k+1))+(2^(k+1)*u+v)=v+(hi*2^(255-k)+u)*2^(k+1) by rw [Jg,IL,IJ u];omega,
   Jf _ _ (I4 dC),IP hv];omega
 have e2:(hi*2^256+lo) / 2^k=2*(hi*2^(255-k)+u)+v / 2^k:=by
  rw [p256,<- hlo,show hi*(2^(255-k)*2^(k+1))+(2^(k+1)*u+v)=v+(2*(hi*2^(255-k)+u))*2^k by
   rw [pk]
   have a1:hi*(2^(255-k)*(2*2^k))=2*(hi*2^(255-k))*2^k:=by
    rw [<- IL,<- IL,IJ (hi*2^(255-k)) 2]
   have a2:2*2^k*u=2*u*2^k:=by rw [IL,IJ (2^k),<- IL]
   rw [a1,a2,Nat.mul_add,Jg];omega,
   Jf _ _ p0];omega
 have e3:lo*2^i%2^256=v*2^(255-k):=by
  rw [hi',<- hlo,Jg,p256,show 2^(k+1)*u*2^(255-k)=u*(2^(255-k)*2^(k+1)) by rw [IJ (2^(k+1)),IL,IJ (2^(k+1))],
   JQ,JD,IK]
  rw [IJ (2^(255-k))];exact JY hv (I4 dC)
 have e4:2*(v*2^(255-k)) / 2^256=v / 2^k:=by
  rw [p256,pk,show 2*(v*2^(255-k))=v*(2^(255-k)*2) by rw [<- IL,<- IL,IJ 2 v,IL,IJ 2,<- IL],
   show 2^(255-k)*(2*2^k)=2^k*(2^(255-k)*2) by rw [<- IL,IJ],Nat.mul_div_mul_right _ _ (by have:0<2^(255-k):=I4 dC;omega)]
 rw [e1,e2,e3,e4]
theorem dbit (lo i:Nat):2*dLo lo i / M<=1:=by
 have:=dLo_lt lo i
 have hM:0<M:=by rw [wZ];decide
 rw [<- Nat.lt_succ_iff,Jn hM];omega
theorem dQ_low (N b i:Nat) (_h:i<256):dQ N b i%2^(255-i+1)=0:=by
 unfold dQ;rw [show 255-i+1=256-i by omega];exact LK _ _
theorem d_yes (hi lo b i:Nat) (hb:0<b) (h:i<256) (hge:b<=2*dR (hi*M+lo) b i+2*dLo lo i / M) :
 dR (hi*M+lo) b (i+1)=2*dR (hi*M+lo) b i+2*dLo lo i / M-b/\dQ (hi*M+lo) b (i+1)=dQ (hi*M+lo) b i+2^(255-i):=by
 have hT:=dT_step hi lo i h
 have hbit:=dbit lo i
 unfold dR dQ at *
 generalize dT (hi*M+lo) (i+1)=T' at *
 generalize dT (hi*M+lo) i=T at *
 generalize 2*dLo lo i / M=c at *
 have hd:=JF T b
 have hr:=Js T hb
 generalize T / b=q at *
 generalize T%b=r at *
 have e:T'=(2*r+c-b)+(2*q+1)*b:=by rw [hT,<- hd,Jg,IL,IJ q b];omega
 have h1:2*r+c-b<b:=by omega
 rw [e,JD,IK h1,Jf _ _ hb,IP h1]
 refine ⟨rfl,?_⟩
 rw [show 256-(i+1)=255-i by omega,show 256-i=255-i+1 by omega,IZ,JR,Jg,J5,IJ 2 q,IL,IJ 2]
theorem d_no (hi lo b i:Nat) (hb:0<b) (h:i<256) (hge:2*dR (hi*M+lo) b i+2*dLo lo i / M<b) :
 dR (hi*M+lo) b (i+1)=2*dR (hi*M+lo) b i+2*dLo lo i / M/\dQ (hi*M+lo) b (i+1)=dQ (hi*M+lo) b i:=by
 have hT:=dT_step hi lo i h
 have hbit:=dbit lo i
 unfold dR dQ at *
 generalize dT (hi*M+lo) (i+1)=T' at *
 generalize dT (hi*M+lo) i=T at *
 generalize 2*dLo lo i / M=c at *
 have hd:=JF T b
 generalize T / b=q at *
 generalize T%b=r at *
 have e:T'=(2*r+c)+(2*q)*b:=by rw [hT,<- hd,IL,IJ q b];omega
 rw [e,JD,IK hge,Jf _ _ hb,IP hge]
 refine ⟨rfl,?_⟩
 rw [show 256-(i+1)=255-i by omega,show 256-i=255-i+1 by omega,IZ,JR,IJ 2 q,IL,IJ 2]
theorem dR_lt (N b i:Nat) (hb:0<b):dR N b i<b:=Js _ hb
theorem d_start {hi lo:Nat} (hl:lo<M) (hb:hi<b):dR (hi*M+lo) b 0=hi/\dQ (hi*M+lo) b 0=0:=by
 unfold dR dQ;rw [dT_zero hl,IK hb,IP hb];exact ⟨rfl,KD _⟩
theorem d_end (N b:Nat):dR N b 256=N%b/\dQ N b 256=N / b:=by
 unfold dR dQ dT;simp
theorem d_early {hi lo:Nat} (h:i<=256) (hr:dR (hi*M+lo) b i=0) (h0:dLo lo i=0):dR (hi*M+lo) b i=(hi*M+lo)%b/\dQ (hi*M+lo) b i=(hi*M+lo) / b:=by
 have key:∀ k,i+k<=256->dT (hi*M+lo) (i+k)=dT (hi*M+lo) i*2^k/\dLo lo (i+k)=0:=by
  intro k
  induction k with
  | zero=>intro _;exact ⟨by simp,h0⟩
  | succ k ih =>
    intro hk
    obtain ⟨h1,h2⟩:=ih om
    have h3:=dT_step hi lo (i+k) om
    have h4:=dLo_step lo (i+k)
    rw [h2] at h3 h4
    refine ⟨?_,?_⟩
    ·rw [<- MH,h3,h1,Nat.mul_zero,Nat.zero_div,IZ,JS,IJ 2,IL]
    ·rw [<- MH,<- h4];simp
 have hN:hi*M+lo=dT (hi*M+lo) i*2^(256-i):=by
  have:=(key (256-i) om).1
  rw [show i+(256-i)=256 by omega] at this
  rw [<- this];unfold dT;simp
 unfold dR dQ at *
 generalize dT (hi*M+lo) i=T at *
 rw [hN]
 by_cases hb:b=0
 ·subst hb;simp at *;simp [hr]
 ·have hb' : 0 < b := by omega
  have hd:=JF T b
  rw [hr] at hd
  rw [hr]
  generalize T / b=q at *
  have e:T*2^(256-i)=q*2^(256-i)*b:=by rw [<- hd,JS,IJ b q,Nat.mul_right_comm]
  rw [e,LK,Ll _ hb']
  exact ⟨rfl,rfl⟩
variable {x c:Int}
theorem U_small (n:Nat) (hn:n<18446744073709551616):Nr #[.int .u64 n,.int .u64 0,.int .u64 0,.int .u64 0]=U n :=
 Cj n ⟨by omega,by omega⟩ BU BU BU om
set_option maxHeartbeats 1000000 in
theorem fromuint_any (n:Int) (w:Nu) (hn:jH n) :
 Calls prog 126 #[.int .u64 n] w fun e w'=>e=.returned (U n.toNat)/\Below w.heap.size w w':=by
 obtain ⟨n,rfl⟩:=KA hn.1
 have h2:=hn.2
 go_enter func126,Tryz.ntmps126
 go_wp2
 go_returns
 refine ⟨ret_U (U_small n om),?_⟩
 (exact bt)
theorem Hz (_hx:jH x) (hc:FI c):bits .or .u64 (I7.wrap (x*2)) c=(x*2)%18446744073709551616+c:=by
 unfold jH FI at *
 rw [KP]
 have e:x*2%18446744073709551616=(x%9223372036854775808)*2^1:=by omega
 have h:=Dl (x%9223372036854775808) c 1 om hc.1 om om
 rw [<- e] at h
 exact h
theorem dbl_bit (hx:jH x):FI (x / 9223372036854775808):=by unfold jH FI at *;omega
theorem dbl_words (A:Nat) (c:Int) (hA:A<M) (hc:FI c) :
 Nr #[.int .u64 (bits .or .u64 (I7.wrap (wd A 0*2)) c),.int .u64 (bits .or .u64 (I7.wrap (wd A 1*2)) (wd A 0 / 9223372036854775808)),.int .u64 (bits .or .u64 (I7.wrap (wd A 2*2)) (wd A 1 / 9223372036854775808)),.int .u64 (bits .or .u64 (I7.wrap (wd A 3*2)) (wd A 2 / 9223372036854775808))]=U ((2*A+c.toNat)%M)/\wd A 3 / 9223372036854775808=(((2*A+c.toNat) / M:Nat):Int):=by
 have w0:=dA A 0;have w1:=dA A 1;have w2:=dA A 2;have w3:=dA A 3
 have ea:=uM A hA
 rw [Hz w0 hc,Hz w1 (dbl_bit w0),Hz w2 (dbl_bit w1),Hz w3 (dbl_bit w2)]
 generalize wd A 0=a0 at *;generalize wd A 1=a1 at *;generalize wd A 2=a2 at *;generalize wd A 3=a3 at *
 unfold jH FI at *
 refine ⟨Cj _ ?_ ?_ ?_ ?_ ?_,?_⟩
 ·unfold jH;omega
 ·unfold jH;omega
 ·unfold jH;omega
 ·unfold jH;omega
 ·rw [wZ] at *;omega
 ·rw [wZ] at *;omega
theorem ret_Ui {a b:Ns} {d:Int} (h:a=b) (h':c=d):LW (.tuple #[a,.int .u64 c])=.returned (.tuple #[b,.int .u64 d]):=by rw [h,h']
set_option maxHeartbeats 1000000 in
theorem double_any (A:Nat) (c:Int) (w:Nu) (hA:A<M) (hc:FI c) :
 Calls prog 182 #[U A,.int .u64 c] w fun e w'=>e=.returned (.tuple #[U ((2*A+c.toNat)%M),.int .u64 (((2*A+c.toNat) / M:Nat):Int)])/\Below w.heap.size w w':=by
 have H:=IQ hc
 clear hc
 go_enter func182,Tryz.ntmps182
 go_wp2
 refine wp_loop_rounds 5 ?_
 repeat (rw [rounds_succ];go_wp2;try (go_region;go_wp2))
 go_returns
 obtain ⟨g1,g2⟩:=dbl_words A c hA H.out
 refine ⟨ret_Ui g1 g2,?_⟩
 (exact bt)
variable {P:Nv} {ty:Nw} {w:Nu}
theorem setRow_alloc_at (w:Nu) (c c':Array Ns) (t:Nw) (n:Nat) (hn:n=w.heap.size):(w.alloc (.cells c t)).setRow n c'=w.alloc (.cells c' t):=by
 subst hn;exact World.setRow_alloc_new w c c' t
theorem G6 (w:Nu) (o:Obj) (c':Array Ns) (n:Nat) (hn:n<w.heap.size):(w.alloc o).setRow n c'=(w.setRow n c').alloc o:=by
 simp only [World.setRow,World.alloc]
 congr 1
 apply ML
 intro i
 simp only [Array.getElem?_modify,MF,Array.size_modify]
 by_cases h:n=i
 ·subst h;rw [if_pos rfl,if_neg om,if_neg om,if_pos rfl]
 ·rw [if_neg h];split<;>first | rfl | (rw [if_neg h])
theorem heap_past_aux (w:Nu) (o:Obj) (n:Nat) (hn:n<w.heap.size):(w.alloc o).heap[n]? = w.heap[n]? := by
 show (w.heap.push o)[n]? = _
 rw [MF,if_neg (Nat.ne_of_lt hn)]
theorem nC (w:Nu) (o:Obj) (n:Nat) (hn:n=w.heap.size):(w.alloc o).heap[n]? = some o:=by subst hn;exact heap_alloc_new w o
theorem gX (w:Nu) (o:Obj) (n:Nat) (hn:n<w.heap.size):(w.alloc o).heap[n]? = w.heap[n]? := Go.Proofs.YtegagmoldjiaaaaGreatDoor.heap_past_aux w o n hn
theorem wl_load {ops:Array Oper} {rest:List Oper} {dst:Option Tmp} {ty':Nw} {x:Operand} {pos:String} {after:Array Edge} {a:Act} {Q:Exit->Act->Nu->Prop}
 (g:Nat) (t:Nw) (cs:Array Ns) (d:TypeDesc) (hx:a.eval x=.pointer (some ⟨g,0,none⟩)) (hg:w.heap[g]? = some (.cells cs t (0,0)))
 (hu:P.underlying ty=some d) (hd:(match d with | .struct _ | .array _ _=>true | _=>false)=true) (hi:(P.info? ty).map (·.size)=some cs.size)
 (h:wpList P ops Q rest (a.put dst (.agg cs)) w):wpList P ops Q (⟨dst,.load ty x,ty',pos,after,none⟩::rest) a w :=
 wpList_load_row rfl ty x rfl g hx t cs (0,0) d hg hu hd hi h
theorem wl_store {ops:Array Oper} {rest:List Oper} {ty':Nw} {x y:Operand} {pos:String} {after:Array Edge} {a:Act} {Q:Exit->Act->Nu->Prop}
 (g:Nat) (t:Nw) (old cs:Array Ns) (hx:a.eval x=.pointer (some ⟨g,0,none⟩)) (hy:a.eval y=.agg cs) (hg:w.heap[g]? = some (.cells old t (0,0)))
 (hi:(P.info? ty).map (·.size)=some cs.size) (ho:old.size=cs.size) (h1:cs.all (·.oneCell')=true)
 (h:wpList P ops Q rest a (w.setRow g cs)):wpList P ops Q (⟨none,.store ty x y,ty',pos,after,none⟩::rest) a w :=
 wpList_store_row rfl ty x y rfl g cs hx hy t old hg hi ho h1 h
theorem hp_3_0 (w:Nu) (o0 o1 o2:Obj):(((w.alloc o0).alloc o1).alloc o2).heap[w.heap.size]? = some o0:=(gX _ _ _ (by simp;try omega)).trans ((gX _ _ _ (by simp;try omega)).trans (nC _ _ _ (by simp)))
theorem hp_3_1 (w:Nu) (o0 o1 o2:Obj):(((w.alloc o0).alloc o1).alloc o2).heap[w.heap.size+1]? = some o1:=(gX _ _ _ (by simp;try omega)).trans (nC _ _ _ (by simp))
theorem sr_3_1 (w:Nu) (o0 o2:Obj) (c c':Array Ns) (t:Nw):(((w.alloc o0).alloc (.cells c t)).alloc o2).setRow (w.heap.size+1) c'=(((w.alloc o0).alloc (.cells c' t)).alloc o2):=by rw [G6 _ _ _ _ (by simp;try omega),setRow_alloc_at _ _ _ _ _ (by simp)]
theorem hp_3_2 (w:Nu) (o0 o1 o2:Obj):(((w.alloc o0).alloc o1).alloc o2).heap[w.heap.size+1+1]? = some o2:=nC _ _ _ (by simp)
theorem hp_5_0 (w:Nu) (o0 o1 o2 o3 o4:Obj):(((((w.alloc o0).alloc o1).alloc o2).alloc o3).alloc o4).heap[w.heap.size]? = some o0:=(gX _ _ _ (by simp;try omega)).trans ((gX _ _ _ (by simp;try omega)).trans ((gX _ _ _ (by simp;try omega)).trans ((gX _ _ _ (by simp;try omega)).trans (nC _ _ _ (by simp)))))
theorem hp_5_1 (w:Nu) (o0 o1 o2 o3 o4:Obj):(((((w.alloc o0).alloc o1).alloc o2).alloc o3).alloc o4).heap[w.heap.size+1]? = some o1:=(gX _ _ _ (by simp;try omega)).trans ((gX _ _ _ (by simp;try omega)).trans ((gX _ _ _ (by simp;try omega)).trans (nC _ _ _ (by simp))))
theorem hp_5_2 (w:Nu) (o0 o1 o2 o3 o4:Obj):(((((w.alloc o0).alloc o1).alloc o2).alloc o3).alloc o4).heap[w.heap.size+1+1]? = some o2:=(gX _ _ _ (by simp;try omega)).trans ((gX _ _ _ (by simp;try omega)).trans (nC _ _ _ (by simp)))
theorem hp_5_3 (w:Nu) (o0 o1 o2 o3 o4:Obj):(((((w.alloc o0).alloc o1).alloc o2).alloc o3).alloc o4).heap[w.heap.size+1+1+1]? = some o3:=(gX _ _ _ (by simp;try omega)).trans (nC _ _ _ (by simp))
theorem hp_5_4 (w:Nu) (o0 o1 o2 o3 o4:Obj):(((((w.alloc o0).alloc o1).alloc o2).alloc o3).alloc o4).heap[w.heap.size+1+1+1+1]? = some o4:=nC _ _ _ (by simp)
variable {B g:Nat} {C:Array Ns}
theorem ret_UUb {a b c d:Ns} {x y:Bool} (h:a=b) (h':c=d) (h2:x=y):LW (.tuple #[a,c,.bool x])=.returned (.tuple #[b,d,.bool y]):=by rw [h,h',h2]
theorem wG (q g m:Nat) (hg:g<4) (hm:m<64) (h:q%2^(64*g+m+1)=0):(cU q).setIfInBounds g (.int .u64 (bits .or .u64 (wd q g) (2^m)))=cU (q+2^(64*g+m)):=by
 rw [setbit_at q g m hm h]
 have hh:∀ j,g<j->wd (q+2^(64*g+m)) j=wd q j:=fun j hj=>setbit_hi q _ j h om
 have hl:∀ j,j<g->wd (q+2^(64*g+m)) j=wd q j:=fun j hj=>setbit_lo q _ j om
 generalize q+2^(64*g+m)=q' at *
 rcases (by omega:g=0\/g=1\/g=2\/g=3) with rfl | rfl | rfl | rfl
 ·show #[_,_,_,_]=_;rw [cU,hh 1 om,hh 2 om,hh 3 om]
 ·show #[_,_,_,_]=_;rw [cU,hl 0 om,hh 2 om,hh 3 om]
 ·show #[_,_,_,_]=_;rw [cU,hl 0 om,hl 1 om,hh 3 om]
 ·show #[_,_,_,_]=_;rw [cU,hl 0 om,hl 1 om,hl 2 om]
theorem F7 (m:Nat) (h:m<64):I7.wrap (2^m)=2^m:=by
 have h1:(2:Nat)^m<2^64:=JH dC h
 have h2:((2^m:Nat):Int)<((2^64:Nat):Int):=by omega
 have h3:((2^m:Nat):Int)=2^m:=by simp
 rw [h3] at h2
 exact Iy (by rw [<- h3];exact Int.natCast_nonneg _) h2
theorem step_r2 {v:Nat} (h:b<=v) (h2:v-b<M) (hb:b<M):(v%M+M-b)%M=v-b:=by rw [wZ] at *;omega
theorem cmp_ge {A:Nat} (h:B<=A):0<=pF A B:=by unfold pF;split<;>(try split)<;>omega
theorem cmp_lt {A:Nat} (h:A<B):pF A B<0:=by unfold pF;split<;>(try split)<;>omega
def qY (w:Nu) (g:Nat) (C:Array Ns):Prop:=w.heap[g]? = some (.cells C 54 (0,0))
theorem qY.cell (h:qY w g C) (j:Nat):w.cell? ⟨g,j,none⟩=C[j]? := cell_of_row w g j C _ _ h
theorem qY.free (h:qY w g C) (j:Nat):w.frozen? ⟨g,j,none⟩=false:=frozen_of_row w g j C _ h
theorem qY.lt (h:qY w g C):g<w.heap.size:=by
 unfold qY at h
 by_cases hl:g<w.heap.size
 ·exact hl
 ·rw [KE om] at h;exact absurd h (by simp)
theorem qY.aS {w':Nu} (h:qY w g C) (hb:Below w.heap.size w w'):qY w' g C:=(hb.block g h.lt).trans h
theorem qY.zA {c0 c1 c2 c3:Ns} (h:qY w g #[c0,c1,c2,c3]) (d0 d1 d2 d3:Ns):qY ((((w.setCell ⟨g,0,none⟩ d0).setCell ⟨g,1,none⟩ d1).setCell ⟨g,2,none⟩ d2).setCell ⟨g,3,none⟩ d3) g #[d0,d1,d2,d3] :=
 heap_setCell_same _ g 3 _ _ d3 (heap_setCell_same _ g 2 _ _ d2 (heap_setCell_same _ g 1 _ _ d1 (heap_setCell_same _ g 0 _ _ d0 h)))
theorem qY.set (h:qY w g C) (d:Ns):qY (w.setCell ⟨g,i,none⟩ d) g (C.setIfInBounds i d):=heap_setCell_same _ g i _ _ d h
theorem qY.other (h:qY w g C) {g':Nat} (hg:g≠g') (d:Ns):qY (w.setCell ⟨g',i,none⟩ d) g C:=(heap_setCell_other w ⟨g',i,none⟩ g d hg).trans h
theorem qY.eH (h:qY w g C) {g':Nat} (hg:g≠g') (d0 d1 d2 d3:Ns):qY ((((w.setCell ⟨g',0,none⟩ d0).setCell ⟨g',1,none⟩ d1).setCell ⟨g',2,none⟩ d2).setCell ⟨g',3,none⟩ d3) g C :=
 (((h.other hg d0).other hg d1).other hg d2).other hg d3
theorem qY.drew (h:qY w g C):qY w.drew g C:=h
theorem qY.new (C:Array Ns):qY (w.alloc (.cells C 54)) w.heap.size C:=nC w _ _ rfl
theorem qY.past (h:qY w g C) (o:Obj):qY (w.alloc o) g C:=(gX w o g h.lt).trans h
theorem loadU (O:qY w g C) (hs:C.size=4):(loadVar 54 ⟨g,0,none⟩).run prog w=.ok (.agg C) w :=
 run_loadVar_row w g 54 54 C (0,0) _ O underlying54 rfl (by rw [hs];kernel_rfl)
theorem IB {fn:Func} {p1 p2 b:Tmp} (h:fn.results= #[.cell p1 54,.cell p2 54,.tmp b]) (tmps:Array Ns) (w:Nu) (g1 g2:Nat) (C1 C2:Array Ns)
 (hp1:tmps.getD p1 undef=.pointer (some ⟨g1,0,none⟩)) (hp2:tmps.getD p2 undef=.pointer (some ⟨g2,0,none⟩)) (O1:qY w g1 C1) (O2:qY w g2 C2) (s1:C1.size=4) (s2:C2.size=4) :
 (results fn tmps).run prog w=.ok (.tuple #[.agg C1,.agg C2,tmps.getD b undef]) w:=by
 have h1:tmps[p1]?.getD undef=.pointer (some ⟨g1,0,none⟩):=by simpa using hp1
 have h2:tmps[p2]?.getD undef=.pointer (some ⟨g2,0,none⟩):=by simpa using hp2
 simp [results,h,h1,h2,asAddr,loadU O1 s1,loadU O2 s2]
set_option maxHeartbeats 1000000 in
theorem div_no (hi lo b:Nat) (w:Nu) (h1:hi<M) (h3:b<M) (hle:b<=hi) :
 Calls prog 180 #[U hi,U lo,U b] w fun e w'=>e=.returned (.tuple #[U 0,U 0,.bool false])/\Below w.heap.size w w':=by
 have hc:pF b hi<=0:=by unfold pF;split<;>(try split)<;>omega
 go_enter func180,Tryz.ntmps180
 go_wp2_with fail
 go_step3
 go_wp2_with fail
 refine (E8 b hi _ h3 h1).mono ?_;rintro e w1 ⟨rfl,hb⟩
 have O3:qY w1 (w.heap.size+1+1+1) #[.int .u64 0,.int .u64 0,.int .u64 0,.int .u64 0]:=qY.aS (hp_5_3 _ _ _ _ _ _) hb
 have O4:qY w1 (w.heap.size+1+1+1+1) #[.int .u64 0,.int .u64 0,.int .u64 0,.int .u64 0]:=qY.aS (hp_5_4 _ _ _ _ _ _) hb
 have hb':Below w.heap.size w w1:=JA (by (exact bt)) (hb.mono (by simp only [KQ];omega))
 clear hb
 have c3:=O3.cell;have f3:=O3.free;have c4:=O4.cell;have f4:=O4.free
 go_wp2
 rw [LX]
 go_big_open
 refine bodyPost_ret (IB rfl _ _ _ _ _ _ rfl rfl ((O3.zA _ _ _ _).eH om _ _ _ _) ((O4.eH om _ _ _ _).zA _ _ _ _) rfl rfl) rfl ?_
 refine ⟨ret_UUb U0_eq U0_eq rfl,?_⟩
 (exact bt)
def DivW (w wr:Nu) (z hi lo b i:Nat):Prop :=
 Below w.heap.size w wr/\w.heap.size+5<=z/\z<wr.heap.size /\
 qY wr (w.heap.size+1) (cU (dLo lo i)) /\
 qY wr (w.heap.size+1+1) (cU b) /\
 qY wr (w.heap.size+1+1+1) (cU (dQ (hi*M+lo) b i)) /\
 qY wr (w.heap.size+1+1+1+1) (cU (dR (hi*M+lo) b i)) /\
 qY wr z #[.int .u64 0,.int .u64 0,.int .u64 0,.int .u64 0]
set_option maxHeartbeats 4000000 in
theorem div_yes (hi lo b:Nat) (w:Nu) (h1:hi<M) (h2:lo<M) (h3:b<M) (hle:hi<b) :
 Calls prog 180 #[U hi,U lo,U b] w fun e w'=>e=.returned (.tuple #[U ((hi*M+lo) / b),U ((hi*M+lo)%b),.bool true])/\Below w.heap.size w w':=by
 have hc:0<pF b hi:=by rw [cmpN_gt hle];omega
 go_enter func180,Tryz.ntmps180
 go_wp2_with fail
 go_step3
 go_wp2_with fail
 refine (E8 b hi _ h3 h1).mono ?_;rintro e w1 ⟨rfl,hb⟩
 have O0:qY w1 w.heap.size (cU hi):=qY.aS (hp_5_0 _ _ _ _ _ _) hb
 have O1:qY w1 (w.heap.size+1) (cU lo):=qY.aS (hp_5_1 _ _ _ _ _ _) hb
 have O2:qY w1 (w.heap.size+1+1) (cU b):=qY.aS (hp_5_2 _ _ _ _ _ _) hb
 have O3:qY w1 (w.heap.size+1+1+1) #[.int .u64 0,.int .u64 0,.int .u64 0,.int .u64 0]:=qY.aS (hp_5_3 _ _ _ _ _ _) hb
 have O4:qY w1 (w.heap.size+1+1+1+1) #[.int .u64 0,.int .u64 0,.int .u64 0,.int .u64 0]:=qY.aS (hp_5_4 _ _ _ _ _ _) hb
 have hB:Below w.heap.size w w1:=JA (by (exact bt)) (hb.mono (by simp only [KQ];omega))
 clear hb
 have c0:=O0.cell;have l0:=O0.lt;have c4:=O4.cell;have f4:=O4.free;have l4:=O4.lt
 go_wp2
 go_step3
 go_wp2
 go_loopg [10] 4 (fun k p wr=>k<=4/\p=.int .i64 (k-1)/\DivW w wr w1.heap.size hi lo b (256-64*k))
 case atStart =>
  obtain ⟨e1,e2⟩:=d_start h2 hle
  refine ⟨by omega,rfl,?_,by omega,by simp,?_,?_,?_,?_,?_⟩
  ·(exact bt)
  ·rw [show 256-64*4=0 by omega,dLo_zero h2];exact (O1.eH om _ _ _ _).past _
  ·exact (O2.eH om _ _ _ _).past _
  ·rw [show 256-64*4=0 by omega,e2,cU,vW,vW,vW,vW];exact (O3.eH om _ _ _ _).past _
  ·rw [show 256-64*4=0 by omega,e1];exact (O4.zA _ _ _ _).past _
  ·exact nC _ _ _ (by simp)
 case round =>
  obtain ⟨hk,rfl,hW⟩:=hrel
  by_cases hk0:gk=0
  ·subst hk0
   obtain ⟨B0,z1,z2,P1,P2,P3,P4,P5⟩:=hW
   obtain ⟨y1,y2⟩:=d_end (hi*M+lo) b
   rw [show 256-64*0=256 by omega,y1] at P4
   rw [show 256-64*0=256 by omega,y2] at P3
   clear y1 y2 P1
   obtain ⟨r,er⟩:∃ r,r=(hi*M+lo)%b:=⟨_,rfl⟩
   obtain ⟨q,eq⟩:∃ q,q=(hi*M+lo) / b:=⟨_,rfl⟩
   rw [<- er] at P4;rw [<- eq] at P3
   have ER:=IQ er;have EQ:=IQ eq
   clear er eq
   have c3:=P3.cell;have f3:=P3.free;have c4':=P4.cell;have f4':=P4.free
   go_wp2
   go_region
   go_wp2
   try rw [LX]
   try go_big_open
   refine bodyPost_ret (IB rfl _ _ _ _ _ _ rfl rfl ((P3.zA _ _ _ _).eH om _ _ _ _).drew ((P4.eH om _ _ _ _).zA _ _ _ _).drew rfl rfl) rfl ?_
   rw [<- ER.out,<- EQ.out]
   refine ⟨rfl,?_⟩
   (exact bt)
  ·obtain ⟨g, rfl⟩ : ∃ g, gk = g + 1 := ⟨gk - 1, by omega⟩
   have eg:((g+1:Nat):Int)-1=g:=by omega
   rw [eg]
   have HW:=IQ hW
   clear hW eg
   obtain ⟨wo,rfl⟩:∃ wo:Nu,wo=wr:=⟨_,rfl⟩
   go_wp2
   go_loopg [11] 64 (fun k p wr=>k<=64/\p=.int .i64 (k-1)/\DivW w wr w1.heap.size hi lo b (256-64*g-k))
   case atStart =>
    have:=HW.out
    exact ⟨by omega,rfl,by rw [show 256-64*g-64=256-64*(g+1) by omega];exact this⟩
   case round =>
    obtain ⟨hk2,rfl,hW⟩:=hrel
    by_cases hm0:gk=0
    ·subst hm0
     have HW2:=IQ hW
     clear hW
     go_wp2
     go_roundg g
     case rel=>exact ⟨by omega,by go_num,HW2.out⟩
     case measure=>omega
    ·obtain ⟨m, rfl⟩ : ∃ m, gk = m + 1 := ⟨gk - 1, by omega⟩
     have eg:((m+1:Nat):Int)-1=m:=by omega
     rw [eg]
     clear eg
     obtain ⟨i,hi2⟩:∃ i,i=256-64*g-(m+1):=⟨_,rfl⟩
     rw [<- hi2] at hW
     have HI:Hid (i+(64*g+m)=255):=by show _=_;omega
     clear hi2
     obtain ⟨B0,z1,z2,P1,P2,P3,P4,P5⟩:=hW
     obtain ⟨x,ex⟩:∃ x,x=dLo lo i:=⟨_,rfl⟩
     obtain ⟨r,er⟩:∃ r,r=dR (hi*M+lo) b i:=⟨_,rfl⟩
     obtain ⟨q,eq⟩:∃ q,q=dQ (hi*M+lo) b i:=⟨_,rfl⟩
     obtain ⟨x',ex'⟩:∃ x',x'=dLo lo (i+1):=⟨_,rfl⟩
     obtain ⟨c,ec⟩:∃ c:Nat,c=2*x / M:=⟨_,rfl⟩
     obtain ⟨r1,er1⟩:∃ r1,r1=(2*r+c)%M:=⟨_,rfl⟩
     obtain ⟨ov,eov⟩:∃ ov:Nat,ov=(2*r+c) / M:=⟨_,rfl⟩
     obtain ⟨r2,er2⟩:∃ r2,r2=(r1+M-b)%M:=⟨_,rfl⟩
     have xlt:x<M:=by rw [ex];exact dLo_lt lo i
     have rlt:r<M:=by rw [er];exact J8 (dR_lt _ b i om) h3
     have r1lt:r1<M:=by rw [er1];exact Js _ zL
     have cbit:FI (c:Int):=by have:=dbit lo i;rw [<- ex,<- ec] at this;unfold FI;omega
     have D1:Hid (∀ W,Calls prog 182 #[U x,.int .u64 0] W fun e w'=>e=.returned (.tuple #[U x',.int .u64 (c:Int)])/\Below W.heap.size W w'):=by
      intro W
      have h:=double_any x 0 W xlt sW
      rw [show 2*x+(0:Int).toNat=2*x by rfl,<- ec] at h
      rw [ex',<- dLo_step lo i,<- ex];exact h
     have D2:Hid (∀ W,Calls prog 182 #[U r,.int .u64 (c:Int)] W fun e w'=>e=.returned (.tuple #[U r1,.int .u64 (ov:Int)])/\Below W.heap.size W w'):=by
      intro W
      have h:=double_any r (c:Int) W rlt cbit
      rw [Jm,<- er1,<- eov] at h
      exact h
     have D3:Hid (∀ W,Calls prog 183 #[U r1,U b] W fun e w'=>e=.returned (.tuple #[U r2,.bool (decide (r1<b))])/\Below W.heap.size W w'):=by
      intro W
      have h:=sub_any r1 b W r1lt h3
      rw [<- er2] at h
      exact h
     have D4:Hid (∀ W,Calls prog 160 #[U r1,U b] W fun e w'=>e=.returned (.int .i64 (pF r1 b))/\Below W.heap.size W w'):=fun W=>E8 r1 b W r1lt h3
     have p255:255-i=64*g+m:=by have:=HI.out;omega
     have YES:Hid (b<=2*r+c->dR (hi*M+lo) b (i+1)=r2/\dQ (hi*M+lo) b (i+1)=q+2^(64*g+m)/\q%2^(64*g+m+1)=0):=by
      intro hge
      have hq:=dQ_low (hi*M+lo) b i (by have:=HI.out;omega)
      rw [er,ec,ex] at hge
      obtain ⟨y1,y2⟩:=d_yes hi lo b i om (by have:=HI.out;omega) hge
      have hlt:=dR_lt (hi*M+lo) b (i+1) om
      rw [y1,<- er,<- ex,<- ec] at hlt
      rw [<- er,<- ex,<- ec] at hge
      rw [y1,y2,<- er,<- ex,<- ec,<- eq,p255,er2,er1,step_r2 hge om h3]
      rw [<- eq,p255] at hq
      exact ⟨rfl,rfl,hq⟩
     have NO:Hid (2*r+c<b->dR (hi*M+lo) b (i+1)=r1/\dQ (hi*M+lo) b (i+1)=q):=by
      intro hge
      rw [er,ec,ex] at hge
      obtain ⟨y1,y2⟩:=d_no hi lo b i om (by have:=HI.out;omega) hge
      rw [<- er,<- ex,<- ec] at hge
      rw [y1,y2,<- er,<- ex,<- ec,<- eq,er1,IK om]
      exact ⟨rfl,rfl⟩
     have LAST:Hid (r=0->x=0->(hi*M+lo)%b=r/\(hi*M+lo) / b=q):=by
      intro h0 h0'
      rw [er] at h0;rw [ex] at h0'
      obtain ⟨y1,y2⟩:=d_early (by have:=HI.out;omega) h0 h0'
      exact ⟨by rw [<- y1,er],by rw [<- y2,eq]⟩
     have ei:256-64*g-m=i+1:=by have:=HI.out;omega
     have hv1:ov≠0->b<=2*r+c:=by
      intro h
      rw [eov] at h
      have:M<=2*r+c:=by
       by_cases hh:2*r+c<M
       ·rw [IP hh] at h;exact absurd rfl h
       ·omega
      omega
     have hv0:ov=0->r1=2*r+c:=by
      intro h
      rw [eov] at h
      rw [er1]
      exact IK (L6 zL h)
     rw [<- ex] at P1;rw [<- er] at P4;rw [<- eq] at P3
     have EX':=IQ ex';have HV1:=IQ hv1;have HV0:=IQ hv0;have EI:=IQ ei
     clear ex er eq ex' ec er1 eov er2 cbit hv1 hv0 ei p255
     have E1:=fun W=>eqlU0 r rlt W
     have E2:=fun W=>eqlU0 x xlt W
     have c1:=P1.cell;have f1:=P1.free
     have c2:=P2.cell
     have c4':=P4.cell;have f4':=P4.free
     have c5:=P5.cell
     by_cases hend:r=0/\x=0
     ·obtain ⟨hr0, hx0⟩ := hend
      obtain ⟨L1,L2⟩:=LAST.out hr0 hx0
      have hd:decide (r=0)=true:=decide_eq_true hr0
      have hd2:decide (x=0)=true:=decide_eq_true hx0
      have HL1:=IQ L1;have HL2:=IQ L2
      clear L1 L2 hr0 hx0
      have c3:=P3.cell;have f3:=P3.free
      go_wp2
      go_region
      go_wp2
      rw [LX]
      go_big_open
      refine bodyPost_ret (IB rfl _ _ _ _ _ _ rfl rfl ((P3.zA _ _ _ _).eH om _ _ _ _).drew ((P4.eH om _ _ _ _).zA _ _ _ _).drew rfl rfl) rfl ?_
      rw [HL1.out,HL2.out]
      refine ⟨rfl,?_⟩
      (exact bt)
     · have hT : (decide (r = 0) = false) \/ (decide (r = 0) = true /\ decide (x = 0) = false) := by
        by_cases h:r=0
        ·exact JW ⟨decide_eq_true h,decide_eq_false (fun hx=>hend ⟨h,hx⟩)⟩
        ·exact Ju (decide_eq_false h)
       clear hend
       by_cases hov:ov=0
       ·have hob : ((ov : Int) != 0) = false := by rw [hov]; rfl
        have hr1:=HV0.out hov
        clear hov
        by_cases hge:b<=2*r+c
        ·have hcm : 0 <= pF r1 b := cmp_ge om
         have HGE:=IQ hge
         clear hr1 hge
         rcases hT with hd | ⟨hd,hd2⟩
         all_goals
          go_wp2_with fail
          refine (D1.out _).mono ?_;rintro e w2 ⟨rfl,hb2⟩;have Q1:=P1.aS hb2;have Q2:=P2.aS hb2;have Q3:=P3.aS hb2;have Q4:=P4.aS hb2;have Q5:=P5.aS hb2;have B2:Below w.heap.size w w2:=B0.trans (hb2.mono B0.size);have hs2:=hb2.size;clear c1 f1 c2 c4' f4' c5 hb2;have c1:=Q1.cell;have f1:=Q1.free;have c4':=Q4.cell
          go_wp2_with fail
          refine (D2.out _).mono ?_;rintro e w4 ⟨rfl,hb4⟩;have R1:=(Q1.zA _ _ _ _).aS hb4;have R2:=(Q2.eH om _ _ _ _).aS hb4;have R3:=(Q3.eH om _ _ _ _).aS hb4;have R4:=(Q4.eH om _ _ _ _).aS hb4;have R5:=(Q5.eH om _ _ _ _).aS hb4;have B4:Below w.heap.size w w4:=JA (by (exact bt)) (hb4.mono (by simp;have:=B2.size;omega));have hs4:=hb4.size;simp at hs4;clear c1 f1 c4' hb4 Q1 Q2 Q3 Q4 Q5;have c4':=R4.cell;have f4':=R4.free;have c2:=R2.cell
          go_wp2_with fail
          refine (D4.out _).mono ?_;rintro e w5 ⟨rfl,hb5⟩;have T1:=(R1.eH om _ _ _ _).aS hb5;have T2:=(R2.eH om _ _ _ _).aS hb5;have T3:=(R3.eH om _ _ _ _).aS hb5;have T4:=(R4.zA _ _ _ _).aS hb5;have T5:=(R5.eH om _ _ _ _).aS hb5;have B5:Below w.heap.size w w5:=JA (by (exact bt)) (hb5.mono (by simp;have:=B4.size;omega));have hs5:=hb5.size;simp at hs5;clear c4' f4' c2 hb5 R1 R2 R3 R4 R5;have c4':=T4.cell;have f4':=T4.free;have c2:=T2.cell
          go_wp2_with fail
          refine (D3.out _).mono ?_;rintro e w6 ⟨rfl,hb6⟩;have S1:=T1.aS hb6;have S2:=T2.aS hb6;have S3:=T3.aS hb6;have S4:=T4.aS hb6;have S5:=T5.aS hb6;have B6:Below w.heap.size w w6:=B5.trans (hb6.mono B5.size);have hs6:=hb6.size;clear c4' f4' c2 hb6 T1 T2 T3 T4 T5;have c4':=S4.cell;have f4':=S4.free;have f3:=S3.free;have cg:w6.cell? ⟨w.heap.size+1+1+1,g,none⟩=some (.int .u64 (wd q g)):=by rw [S3.cell,vK q g om]
          go_wp2
          go_region
          go_wp2
          go_roundg m
          case rel =>
           obtain ⟨y1,y2,y3⟩:=YES.out HGE.out
           rw [EI.out,F7 m om]
           refine ⟨by omega,rfl,?_,by omega,by simp;omega,?_,?_,?_,?_,?_⟩
           ·(exact bt)
           ·rw [<- EX'.out];exact ((S1.eH om _ _ _ _).other om _).drew
           ·exact ((S2.eH om _ _ _ _).other om _).drew
           ·rw [y2,<- wG q g m om om y3];exact ((S3.eH om _ _ _ _).set _).drew
           ·rw [y1];exact ((S4.zA _ _ _ _).other om _).drew
           ·exact ((S5.eH om _ _ _ _).other om _).drew
          case measure=>omega
        ·have hcm : pF r1 b < 0 := cmp_lt om
         have HGE:=IQ hge
         clear hr1 hge
         rcases hT with hd | ⟨hd,hd2⟩
         all_goals
          go_wp2_with fail
          refine (D1.out _).mono ?_;rintro e w2 ⟨rfl,hb2⟩;have Q1:=P1.aS hb2;have Q2:=P2.aS hb2;have Q3:=P3.aS hb2;have Q4:=P4.aS hb2;have Q5:=P5.aS hb2;have B2:Below w.heap.size w w2:=B0.trans (hb2.mono B0.size);have hs2:=hb2.size;clear c1 f1 c2 c4' f4' c5 hb2;have c1:=Q1.cell;have f1:=Q1.free;have c4':=Q4.cell
          go_wp2_with fail
          refine (D2.out _).mono ?_;rintro e w4 ⟨rfl,hb4⟩;have R1:=(Q1.zA _ _ _ _).aS hb4;have R2:=(Q2.eH om _ _ _ _).aS hb4;have R3:=(Q3.eH om _ _ _ _).aS hb4;have R4:=(Q4.eH om _ _ _ _).aS hb4;have R5:=(Q5.eH om _ _ _ _).aS hb4;have B4:Below w.heap.size w w4:=JA (by (exact bt)) (hb4.mono (by simp;have:=B2.size;omega));have hs4:=hb4.size;simp at hs4;clear c1 f1 c4' hb4 Q1 Q2 Q3 Q4 Q5;have c4':=R4.cell;have f4':=R4.free;have c2:=R2.cell
          go_wp2_with fail
          refine (D4.out _).mono ?_;rintro e w5 ⟨rfl,hb5⟩;have T1:=(R1.eH om _ _ _ _).aS hb5;have T2:=(R2.eH om _ _ _ _).aS hb5;have T3:=(R3.eH om _ _ _ _).aS hb5;have T4:=(R4.zA _ _ _ _).aS hb5;have T5:=(R5.eH om _ _ _ _).aS hb5;have B5:Below w.heap.size w w5:=JA (by (exact bt)) (hb5.mono (by simp;have:=B4.size;omega));have hs5:=hb5.size;simp at hs5;clear c4' f4' c2 hb5 R1 R2 R3 R4 R5;have c4':=T4.cell;have f4':=T4.free;have c2:=T2.cell
          go_wp2
          go_roundg m
          case rel =>
           obtain ⟨y1,y2⟩:=NO.out (by have:=HGE.out;omega)
           rw [EI.out]
           exact ⟨by omega,rfl,B5,by omega,by omega,by rw [<- EX'.out];exact T1,T2,by rw [y2];exact T3,by rw [y1];exact T4,T5⟩
          case measure=>omega
       ·have hob : ((ov : Int) != 0) = true := by rw [bne_iff_ne]; omega
        have HGE:=IQ (HV1.out hov)
        clear hov
        rcases hT with hd | ⟨hd,hd2⟩
        all_goals
         go_wp2_with fail
         refine (D1.out _).mono ?_;rintro e w2 ⟨rfl,hb2⟩;have Q1:=P1.aS hb2;have Q2:=P2.aS hb2;have Q3:=P3.aS hb2;have Q4:=P4.aS hb2;have Q5:=P5.aS hb2;have B2:Below w.heap.size w w2:=B0.trans (hb2.mono B0.size);have hs2:=hb2.size;clear c1 f1 c2 c4' f4' c5 hb2;have c1:=Q1.cell;have f1:=Q1.free;have c4':=Q4.cell
         go_wp2_with fail
         refine (D2.out _).mono ?_;rintro e w4 ⟨rfl,hb4⟩;have R1:=(Q1.zA _ _ _ _).aS hb4;have R2:=(Q2.eH om _ _ _ _).aS hb4;have R3:=(Q3.eH om _ _ _ _).aS hb4;have R4:=(Q4.eH om _ _ _ _).aS hb4;have R5:=(Q5.eH om _ _ _ _).aS hb4;have B4:Below w.heap.size w w4:=JA (by (exact bt)) (hb4.mono (by simp;have:=B2.size;omega));have hs4:=hb4.size;simp at hs4;clear c1 f1 c4' hb4 Q1 Q2 Q3 Q4 Q5;have c4':=R4.cell;have f4':=R4.free;have c2:=R2.cell
         go_wp2_with fail
         refine (D3.out _).mono ?_;rintro e w6 ⟨rfl,hb6⟩;have S1:=(R1.eH om _ _ _ _).aS hb6;have S2:=(R2.eH om _ _ _ _).aS hb6;have S3:=(R3.eH om _ _ _ _).aS hb6;have S4:=(R4.zA _ _ _ _).aS hb6;have S5:=(R5.eH om _ _ _ _).aS hb6;have B6:Below w.heap.size w w6:=JA (by (exact bt)) (hb6.mono (by simp;have:=B4.size;omega));have hs6:=hb6.size;simp at hs6;clear c4' f4' c2 hb6 R1 R2 R3 R4 R5;have c4':=S4.cell;have f4':=S4.free;have f3:=S3.free;have cg:w6.cell? ⟨w.heap.size+1+1+1,g,none⟩=some (.int .u64 (wd q g)):=by rw [S3.cell,vK q g om]
         go_wp2
         go_region
         go_wp2
         go_roundg m
         case rel =>
          obtain ⟨y1,y2,y3⟩:=YES.out HGE.out
          rw [EI.out,F7 m om]
          refine ⟨by omega,rfl,?_,by omega,by simp;omega,?_,?_,?_,?_,?_⟩
          ·(exact bt)
          ·rw [<- EX'.out];exact ((S1.eH om _ _ _ _).other om _).drew
          ·exact ((S2.eH om _ _ _ _).other om _).drew
          ·rw [y2,<- wG q g m om om y3];exact ((S3.eH om _ _ _ _).set _).drew
          ·rw [y1];exact ((S4.zA _ _ _ _).other om _).drew
          ·exact ((S5.eH om _ _ _ _).other om _).drew
         case measure=>omega
def xO (A i:Nat):Bool:=decide (A / 2^i%2=1)
theorem bit_wd (A q i:Nat) (h:i / 64=q):(bits .and .u64 (wd A q / 2^(i%64)) 1==1)=xO A i:=by
 rw [Gi]
 have e1:((A / 2^(64*q)%2^64:Nat):Int) / 2^(i%64)=((A / 2^(64*q)%2^64 / 2^(i%64):Nat):Int):=by simp
 generalize hx:A / 2^(64*q)%2^64 / 2^(i%64)=x at *
 have hlt:x<18446744073709551616:=by
  rw [<- hx]
  exact MM (Nat.div_le_self _ _) (Js _ dC)
 have h2:x%2=A / 2^i%2:=by
  rw [<- hx]
  have e64:2^64=2^(i%64)*2^(64-i%64):=by rw [<- Jd];congr 1;omega
  rw [e64,Nat.mod_mul_right_div_self,IM,<- Jd,show 64*q+i%64=i by omega]
  exact Nat.mod_mod_of_dvd _ ⟨2^(64-i%64-1),by rw [<- JV];congr 1;omega⟩
 rw [e1]
 have h3:=bits_and_u64_nat x 1 hlt om
 have h4:x&&&1=x%2:=Nat.and_one_is_mod x
 rw [h4,h2] at h3
 change (bits .and .u64 (x:Int) ((1:Nat):Int)==1)=_
 rw [h3]
 unfold xO
 by_cases hb:A / 2^i%2=1
 ·rw [hb,decide_eq_true rfl];rfl
 ·rw [decide_eq_false hb]
  have:A / 2^i%2=0:=by omega
  rw [this];rfl
set_option maxHeartbeats 1000000 in
theorem BG (A i:Nat) (w:Nu) (hi:i<256) :
 Calls prog 121 #[U A,.int .i64 i] w fun e w'=>e=.returned (.bool (xO A i))/\Below w.heap.size w w':=by
 rcases (by omega:(i:Int) / 64=0\/(i:Int) / 64=1\/(i:Int) / 64=2\/(i:Int) / 64=3) with h | h | h | h
 all_goals
  go_enter func121,Tryz.ntmps121
  go_wp2
  go_ret
  first | refine ⟨Iz (bit_wd A 0 i om),?_⟩ | refine ⟨Iz (bit_wd A 1 i om),?_⟩ | refine ⟨Iz (bit_wd A 2 i om),?_⟩ | refine ⟨Iz (bit_wd A 3 i om),?_⟩
  (exact bt)
theorem dbit_eq (lo i:Nat) (h:i<256):2*dLo lo i / M=lo / 2^(255-i)%2:=by
 have h1:=dT_step 0 lo i h
 rw [KD,JR] at h1
 unfold dT at h1
 have e:256-i=(255-i)+1:=by omega
 rw [show 256-(i+1)=255-i by omega,e,IZ,<- IM] at h1
 have:=dbit lo i
 omega
theorem top_bit {r:Nat} (h:r<M):xO r 255=decide (M<=2*r):=by
 unfold xO
 rw [decide_eq_decide]
 have e:(2:Nat)^255=57896044618658097711785492504343953926634992332820282019728792003956564819968:=by decide +kernel
 rw [e,wZ] at *
 omega
theorem dbl_plus {r c:Nat} (hc:c<=1):(r+r)%M+c=(2*r+c)%M/\(r+r)%M%2=0:=by
 rw [wZ] at *;omega
set_option maxHeartbeats 1000000 in
theorem rdiv_no (hi lo b:Nat) (w:Nu) (h1:hi<M) (h3:b<M) (hle:b<=hi) :
 Calls prog 105 #[U hi,U lo,U b] w fun e w'=>e=.returned (.tuple #[U 0,U 0,.bool false])/\Below w.heap.size w w':=by
 have hc:pF b hi<=0:=by unfold pF;split<;>(try split)<;>omega
 go_enter func105,Tryz.ntmps105
 go_wp2_with fail
 refine (BI b hi _ h3 h1).mono ?_;rintro e w1 ⟨rfl,hb⟩
 have O3:qY w1 (w.heap.size+1+1+1) #[.int .u64 0,.int .u64 0,.int .u64 0,.int .u64 0]:=qY.aS (hp_5_3 _ _ _ _ _ _) hb
 have O4:qY w1 (w.heap.size+1+1+1+1) #[.int .u64 0,.int .u64 0,.int .u64 0,.int .u64 0]:=qY.aS (hp_5_4 _ _ _ _ _ _) hb
 have hb':Below w.heap.size w w1:=JA (by (exact bt)) (hb.mono (by simp only [KQ];omega))
 clear hb
 have c3:=O3.cell;have f3:=O3.free;have c4:=O4.cell;have f4:=O4.free
 go_wp2
 go_region
 go_wp2
 refine bodyPost_ret (IB rfl _ _ _ _ _ _ rfl rfl ((O3.zA _ _ _ _).eH om _ _ _ _).drew ((O4.eH om _ _ _ _).zA _ _ _ _).drew rfl rfl) rfl ?_
 refine ⟨ret_UUb U0_eq U0_eq rfl,?_⟩
 (exact bt)
def RDivW (w wr:Nu) (hi lo b i:Nat):Prop :=
 Below w.heap.size w wr /\
 qY wr (w.heap.size+1) (cU lo)/\qY wr (w.heap.size+1+1) (cU b) /\
 qY wr (w.heap.size+1+1+1) (cU (dQ (hi*M+lo) b i))/\qY wr (w.heap.size+1+1+1+1) (cU (dR (hi*M+lo) b i))
set_option maxHeartbeats 4000000 in
theorem rdiv_yes (hi lo b:Nat) (w:Nu) (h1:hi<M) (h2:lo<M) (h3:b<M) (hle:hi<b) :
 Calls prog 105 #[U hi,U lo,U b] w fun e w'=>e=.returned (.tuple #[U ((hi*M+lo) / b),U ((hi*M+lo)%b),.bool true])/\Below w.heap.size w w':=by
 have hc:0<pF b hi:=by rw [cmpN_gt hle];omega
 go_enter func105,Tryz.ntmps105
 go_wp2_with fail
 refine (BI b hi _ h3 h1).mono ?_;rintro e w1 ⟨rfl,hb⟩
 have O0:qY w1 w.heap.size (cU hi):=qY.aS (hp_5_0 _ _ _ _ _ _) hb
 have O1:qY w1 (w.heap.size+1) (cU lo):=qY.aS (hp_5_1 _ _ _ _ _ _) hb
 have O2:qY w1 (w.heap.size+1+1) (cU b):=qY.aS (hp_5_2 _ _ _ _ _ _) hb
 have O3:qY w1 (w.heap.size+1+1+1) #[.int .u64 0,.int .u64 0,.int .u64 0,.int .u64 0]:=qY.aS (hp_5_3 _ _ _ _ _ _) hb
 have O4:qY w1 (w.heap.size+1+1+1+1) #[.int .u64 0,.int .u64 0,.int .u64 0,.int .u64 0]:=qY.aS (hp_5_4 _ _ _ _ _ _) hb
 have hB:Below w.heap.size w w1:=JA (by (exact bt)) (hb.mono (by simp only [KQ];omega))
 clear hb
 have c0:=O0.cell;have c4:=O4.cell;have f4:=O4.free
 go_wp2
 go_loopg [9] 256 (fun k p wr=>k<=256/\p=.int .i64 (k-1)/\RDivW w wr hi lo b (256-k))
 case atStart =>
  obtain ⟨e1,e2⟩:=d_start h2 hle
  refine ⟨by omega,rfl,?_,?_,?_,?_,?_⟩
  ·(exact bt)
  ·exact O1.eH om _ _ _ _
  ·exact O2.eH om _ _ _ _
  ·rw [LQ,e2,cU,vW,vW,vW,vW];exact O3.eH om _ _ _ _
  ·rw [LQ,e1];exact O4.zA _ _ _ _
 case round =>
  obtain ⟨hk,rfl,hW⟩:=hrel
  by_cases hk0:gk=0
  ·subst hk0
   obtain ⟨B0,P1,P2,P3,P4⟩:=hW
   obtain ⟨y1,y2⟩:=d_end (hi*M+lo) b
   rw [MS,y1] at P4
   rw [MS,y2] at P3
   clear y1 y2 P1
   obtain ⟨r,er⟩:∃ r,r=(hi*M+lo)%b:=⟨_,rfl⟩
   obtain ⟨q,eq⟩:∃ q,q=(hi*M+lo) / b:=⟨_,rfl⟩
   rw [<- er] at P4;rw [<- eq] at P3
   have ER:=IQ er;have EQ:=IQ eq
   clear er eq
   have c3:=P3.cell;have f3:=P3.free;have c4':=P4.cell;have f4':=P4.free
   go_wp2
   go_region
   go_wp2
   refine bodyPost_ret (IB rfl _ _ _ _ _ _ rfl rfl ((P3.zA _ _ _ _).eH om _ _ _ _).drew ((P4.eH om _ _ _ _).zA _ _ _ _).drew rfl rfl) rfl ?_
   rw [<- ER.out,<- EQ.out]
   refine ⟨rfl,?_⟩
   (exact bt)
  ·obtain ⟨m, rfl⟩ : ∃ m, gk = m + 1 := ⟨gk - 1, by omega⟩
   have eg:((m+1:Nat):Int)-1=m:=by omega
   rw [eg]
   clear eg
   obtain ⟨i,hi2⟩:∃ i,i=256-(m+1):=⟨_,rfl⟩
   rw [<- hi2] at hW
   have HI:Hid (i+m=255):=by show _=_;omega
   have i256:i<256:=by omega
   have m256:m<256:=by omega
   have p255:255-i=m:=by omega
   clear hi2
   obtain ⟨B0,P1,P2,P3,P4⟩:=hW
   obtain ⟨r,er⟩:∃ r,r=dR (hi*M+lo) b i:=⟨_,rfl⟩
   obtain ⟨q,eq⟩:∃ q,q=dQ (hi*M+lo) b i:=⟨_,rfl⟩
   obtain ⟨c,ec⟩:∃ c:Nat,c=2*dLo lo i / M:=⟨_,rfl⟩
   have c1:c<=1:=by rw [ec];exact dbit lo i
   have rlt:r<M:=by rw [er];exact J8 (dR_lt _ b i om) h3
   obtain ⟨s,es⟩:∃ s,s=(r+r)%M:=⟨_,rfl⟩
   obtain ⟨r1,er1⟩:∃ r1,r1=(2*r+c)%M:=⟨_,rfl⟩
   obtain ⟨r2,er2⟩:∃ r2,r2=(r1+M-b)%M:=⟨_,rfl⟩
   obtain ⟨sc,sev⟩:=dbl_plus (r:=r) c1
   rw [<- es,<- er1] at sc
   rw [<- es] at sev
   have r1lt:r1<M:=by rw [er1];exact Js _ zL
   have slt:s<M:=by rw [es];exact Js _ zL
   have D1:Hid (∀ W,Calls prog 121 #[U r,.int .i64 255] W fun e w'=>e=.returned (.bool (decide (M<=2*r)))/\Below W.heap.size W w'):=by
    intro W
    have h:=BG r 255 W om
    rw [top_bit rlt] at h;exact h
   have D2:Hid (∀ W,Calls prog 120 #[U r,U r] W fun e w'=>e=.returned (.tuple #[U s,.bool (decide (M<=r+r))])/\Below W.heap.size W w'):=by
    intro W
    have h:=radd_any r r W rlt rlt
    rw [<- es] at h;exact h
   have D3:Hid (∀ W,Calls prog 121 #[U lo,.int .i64 m] W fun e w'=>e=.returned (.bool (decide (c=1)))/\Below W.heap.size W w'):=by
    intro W
    have h:=BG lo m W m256
    rw [show xO lo m=decide (c=1) by unfold xO;rw [ec,dbit_eq lo i i256,p255]] at h;exact h
   have D4:Hid (∀ W,Calls prog 140 #[U r1,U b] W fun e w'=>e=.returned (.int .i64 (pF r1 b))/\Below W.heap.size W w'):=fun W=>BI r1 b W r1lt h3
   have D5:Hid (∀ W,Calls prog 141 #[U r1,U b] W fun e w'=>e=.returned (.tuple #[U r2,.bool (decide (r1<b))])/\Below W.heap.size W w'):=by
    intro W
    have h:=rsub_any r1 b W r1lt h3
    rw [<- er2] at h;exact h
   have BITR:Hid (c=1->(cU s).setIfInBounds 0 (.int .u64 (bits .or .u64 (wd s 0) 1))=cU r1):=by
    intro h
    have hs:=wG s 0 0 om om (by simpa using sev)
    simp only [Nat.mul_zero,JS,KC] at hs
    have hp:(2:Int)^0=1:=rfl
    rw [hp] at hs
    rw [hs];congr 1;omega
   have SAME:Hid (c=0->s=r1):=by intro h;show s=r1;omega
   have p1:255-i=64*(m / 64)+m%64:=by omega
   have YES:Hid (b<=2*r+c->dR (hi*M+lo) b (i+1)=r2/\dQ (hi*M+lo) b (i+1)=q+2^(64*(m / 64)+m%64)/\q%2^(64*(m / 64)+m%64+1)=0):=by
    intro hge
    have hq:=dQ_low (hi*M+lo) b i i256
    rw [er,ec] at hge
    obtain ⟨y1,y2⟩:=d_yes hi lo b i om i256 hge
    have hlt:=dR_lt (hi*M+lo) b (i+1) om
    rw [y1,<- er,<- ec] at hlt
    rw [<- er,<- ec] at hge
    rw [y1,y2,<- er,<- ec,<- eq,p1,er2,er1,step_r2 hge om h3]
    rw [<- eq,p1] at hq
    exact ⟨rfl,rfl,hq⟩
   have NO:Hid (2*r+c<b->dR (hi*M+lo) b (i+1)=r1/\dQ (hi*M+lo) b (i+1)=q):=by
    intro hge
    rw [er,ec] at hge
    obtain ⟨y1,y2⟩:=d_no hi lo b i om i256 hge
    rw [<- er,<- ec] at hge
    rw [y1,y2,<- er,<- ec,<- eq,er1,IK om]
    exact ⟨rfl,rfl⟩
   have ei:256-m=i+1:=by have:=HI.out;omega
   have hv1:M<=2*r->b<=2*r+c:=by intro h;omega
   have hv0: ¬ M<=2*r->r1=2*r+c:=by
    intro h
    rw [er1]
    apply IK
    rw [wZ] at *;omega
   rw [<- er] at P4;rw [<- eq] at P3
   have HV1:=IQ hv1;have HV0:=IQ hv0;have EI:=IQ ei
   have C1:=IQ c1
   clear er eq ec es er1 er2 sc sev hv1 hv0 ei p1 p255 c1
   have hbits:(decide (c=1)=true/\c=1)\/(decide (c=1)=false/\c=0):=by
    have:=C1.out
    by_cases h:c=1
    ·exact Ju ⟨decide_eq_true h,h⟩
    ·exact JW ⟨decide_eq_false h,by omega⟩
   have cc4:=P4.cell
   go_wp2_with fail
   refine (D1.out _).mono ?_;rintro e wx ⟨rfl,hbx⟩
   have Q1:=P1.aS hbx;have Q2:=P2.aS hbx;have Q3:=P3.aS hbx;have Q4:=P4.aS hbx;have BX:Below w.heap.size w wx:=B0.trans (hbx.mono B0.size);clear hbx B0 P1 P2 P3 P4
   obtain ⟨P1,P2,P3,P4,B0⟩:qY wx (w.heap.size+1) (cU lo)/\qY wx (w.heap.size+1+1) (cU b)/\qY wx (w.heap.size+1+1+1) (cU q)/\qY wx (w.heap.size+1+1+1+1) (cU r)/\Below w.heap.size w wx:=⟨Q1,Q2,Q3,Q4,BX⟩;clear Q1 Q2 Q3 Q4 BX
   obtain ⟨wa,rfl⟩:∃ wa:Nu,wa=wx:=⟨_,rfl⟩
   clear cc4
   have cc4:=P4.cell
   go_wp2_with fail
   refine (D2.out _).mono ?_;rintro e wx ⟨rfl,hbx⟩
   have Q1:=P1.aS hbx;have Q2:=P2.aS hbx;have Q3:=P3.aS hbx;have Q4:=P4.aS hbx;have BX:Below w.heap.size w wx:=B0.trans (hbx.mono B0.size);clear hbx B0 P1 P2 P3 P4
   obtain ⟨P1,P2,P3,P4,B0⟩:qY wx (w.heap.size+1) (cU lo)/\qY wx (w.heap.size+1+1) (cU b)/\qY wx (w.heap.size+1+1+1) (cU q)/\qY wx (w.heap.size+1+1+1+1) (cU r)/\Below w.heap.size w wx:=⟨Q1,Q2,Q3,Q4,BX⟩;clear Q1 Q2 Q3 Q4 BX
   clear cc4
   have cc4:=P4.cell;have ff4:=P4.free;have cc1:=P1.cell
   go_wp2_with fail
   refine (D3.out _).mono ?_;rintro e wy ⟨rfl,hby⟩
   have R1:=(P1.eH om _ _ _ _).aS hby;have R2:=(P2.eH om _ _ _ _).aS hby;have R3:=(P3.eH om _ _ _ _).aS hby;have R4:=(P4.zA _ _ _ _).aS hby
   have BY:Below w.heap.size w wy:=JA (by (exact bt)) (hby.mono (by simp;have:=B0.size;omega))
   clear cc4 ff4 cc1 hby P1 P2 P3 P4 B0
   have hm0:(0:Int)<=(m:Int):=by omega
   rcases hbits with ⟨hbt,hc1⟩ | ⟨hbt,hc0⟩
   ·have hrow := BITR.out hc1
    have hrow': #[LM .u64 (bits .or .u64 (wd s 0) 1),.int .u64 (wd s 1),.int .u64 (wd s 2),.int .u64 (wd s 3)]=cU r1:=hrow
    simp only [cU,Array.mk.injEq,List.cons.injEq,LM.injEq,true_and,and_true] at hrow'
    obtain ⟨e0,e1,e2,e3⟩:=hrow'
    have T1:=R1.other (g':=w.heap.size+1+1+1+1) (i:=0) om (.int .u64 (wd r1 0));have T2:=R2.other (g':=w.heap.size+1+1+1+1) (i:=0) om (.int .u64 (wd r1 0));have T3:=R3.other (g':=w.heap.size+1+1+1+1) (i:=0) om (.int .u64 (wd r1 0))
    have T4:qY (wy.setCell ⟨w.heap.size+1+1+1+1,0,none⟩ (.int .u64 (wd r1 0))) (w.heap.size+1+1+1+1) (cU r1):=by
     have h:=R4.set (i:=0) (.int .u64 (wd r1 0))
     rw [<- e0] at h ⊢
     rw [<- hrow];exact h
    have BT:Below w.heap.size w (wy.setCell ⟨w.heap.size+1+1+1+1,0,none⟩ (.int .u64 (wd r1 0))):=by (exact bt)
    have cc4:=R4.cell;have ff4:=R4.free;have cc2:=R2.cell
    clear hrow hc1 BY
    by_cases hov:M<=2*r
    ·have hd : decide (M <= 2 * r) = true := decide_eq_true hov
     have HGE:=IQ (HV1.out hov)
     clear hov
     go_wp2_with fail
     refine (D5.out _).mono ?_;rintro e wz ⟨rfl,hbz⟩
     have S1:=T1.aS hbz;have S2:=T2.aS hbz;have S3:=T3.aS hbz;have S4:=T4.aS hbz
     have BS:=BT.trans (hbz.mono BT.size)
     clear cc4 ff4 cc2
     have cc4:=S4.cell;have ff4:=S4.free;have ff3:=S3.free
     have cg:wz.cell? ⟨w.heap.size+1+1+1,m / 64,none⟩=some (.int .u64 (wd q (m / 64))):=by rw [S3.cell,vK q (m / 64) om]
     go_wp2
     go_region
     go_wp2
     go_roundg m
     case rel =>
      obtain ⟨y1,y2,y3⟩:=YES.out HGE.out
      rw [EI.out,F7 (m%64) om]
      refine ⟨by omega,rfl,?_,?_,?_,?_,?_⟩
      ·(exact bt)
      ·exact ((S1.eH om _ _ _ _).other om _).drew
      ·exact ((S2.eH om _ _ _ _).other om _).drew
      ·rw [y2,<- wG q (m / 64) (m%64) om om y3];exact ((S3.eH om _ _ _ _).set _).drew
      ·rw [y1];exact ((S4.zA _ _ _ _).other om _).drew
     case measure=>omega
    ·have hd : decide (M <= 2 * r) = false := decide_eq_false hov
     have hr1:=HV0.out hov
     clear hov
     by_cases hge:b<=2*r+c
     ·have hcm : 0 <= pF r1 b := cmp_ge om
      have HGE:=IQ hge
      clear hr1 hge
      go_wp2_with fail
      refine (D4.out _).mono ?_;rintro e wv ⟨rfl,hbv⟩
      obtain ⟨V1,V2,V3,V4,BV⟩:qY wv (w.heap.size+1) (cU lo)/\qY wv (w.heap.size+1+1) (cU b)/\qY wv (w.heap.size+1+1+1) (cU q)/\qY wv (w.heap.size+1+1+1+1) (cU r1)/\Below w.heap.size w wv:=⟨T1.aS hbv,T2.aS hbv,T3.aS hbv,T4.aS hbv,BT.trans (hbv.mono BT.size)⟩
      clear cc4 ff4 cc2 hbv T1 T2 T3 T4 BT R1 R2 R3 R4
      have T1:=V1;have T2:=V2;have T3:=V3;have T4:=V4;have BT:=BV
      have cc4:=V4.cell;have ff4:=V4.free;have cc2:=V2.cell
      go_wp2_with fail
      refine (D5.out _).mono ?_;rintro e wz ⟨rfl,hbz⟩
      have S1:=T1.aS hbz;have S2:=T2.aS hbz;have S3:=T3.aS hbz;have S4:=T4.aS hbz
      have BS:=BT.trans (hbz.mono BT.size)
      clear cc4 ff4 cc2
      have cc4:=S4.cell;have ff4:=S4.free;have ff3:=S3.free
      have cg:wz.cell? ⟨w.heap.size+1+1+1,m / 64,none⟩=some (.int .u64 (wd q (m / 64))):=by rw [S3.cell,vK q (m / 64) om]
      go_wp2
      go_region
      go_wp2
      go_roundg m
      case rel =>
       obtain ⟨y1,y2,y3⟩:=YES.out HGE.out
       rw [EI.out,F7 (m%64) om]
       refine ⟨by omega,rfl,?_,?_,?_,?_,?_⟩
       ·(exact bt)
       ·exact ((S1.eH om _ _ _ _).other om _).drew
       ·exact ((S2.eH om _ _ _ _).other om _).drew
       ·rw [y2,<- wG q (m / 64) (m%64) om om y3];exact ((S3.eH om _ _ _ _).set _).drew
       ·rw [y1];exact ((S4.zA _ _ _ _).other om _).drew
      case measure=>omega
     ·have hcm : pF r1 b < 0 := cmp_lt om
      have HGE:=IQ hge
      clear hr1 hge
      go_wp2_with fail
      refine (D4.out _).mono ?_;rintro e wv ⟨rfl,hbv⟩
      have V1:=T1.aS hbv;have V2:=T2.aS hbv;have V3:=T3.aS hbv;have V4:=T4.aS hbv;have BV:=BT.trans (hbv.mono BT.size)
      go_wp2
      go_roundg m
      case rel =>
       obtain ⟨y1,y2⟩:=NO.out (by have:=HGE.out;omega)
       rw [EI.out]
       exact ⟨by omega,rfl,BV,V1,V2,by rw [y2];exact V3,by rw [y1];exact V4⟩
      case measure=>omega
   ·have hsr := SAME.out hc0
    rw [hsr] at R4
    clear hc0 hsr
    have T1:=R1;have T2:=R2;have T3:=R3;have T4:=R4;have BT:=BY
    have cc4:=R4.cell;have ff4:=R4.free;have cc2:=R2.cell
    by_cases hov:M<=2*r
    ·have hd : decide (M <= 2 * r) = true := decide_eq_true hov
     have HGE:=IQ (HV1.out hov)
     clear hov
     go_wp2_with fail
     refine (D5.out _).mono ?_;rintro e wz ⟨rfl,hbz⟩
     have S1:=T1.aS hbz;have S2:=T2.aS hbz;have S3:=T3.aS hbz;have S4:=T4.aS hbz
     have BS:=BT.trans (hbz.mono BT.size)
     clear cc4 ff4 cc2
     have cc4:=S4.cell;have ff4:=S4.free;have ff3:=S3.free
     have cg:wz.cell? ⟨w.heap.size+1+1+1,m / 64,none⟩=some (.int .u64 (wd q (m / 64))):=by rw [S3.cell,vK q (m / 64) om]
     go_wp2
     go_region
     go_wp2
     go_roundg m
     case rel =>
      obtain ⟨y1,y2,y3⟩:=YES.out HGE.out
      rw [EI.out,F7 (m%64) om]
      refine ⟨by omega,rfl,?_,?_,?_,?_,?_⟩
      ·(exact bt)
      ·exact ((S1.eH om _ _ _ _).other om _).drew
      ·exact ((S2.eH om _ _ _ _).other om _).drew
      ·rw [y2,<- wG q (m / 64) (m%64) om om y3];exact ((S3.eH om _ _ _ _).set _).drew
      ·rw [y1];exact ((S4.zA _ _ _ _).other om _).drew
     case measure=>omega
    ·have hd : decide (M <= 2 * r) = false := decide_eq_false hov
     have hr1:=HV0.out hov
     clear hov
     by_cases hge:b<=2*r+c
     ·have hcm : 0 <= pF r1 b := cmp_ge om
      have HGE:=IQ hge
      clear hr1 hge
      go_wp2_with fail
      refine (D4.out _).mono ?_;rintro e wv ⟨rfl,hbv⟩
      obtain ⟨V1,V2,V3,V4,BV⟩:qY wv (w.heap.size+1) (cU lo)/\qY wv (w.heap.size+1+1) (cU b)/\qY wv (w.heap.size+1+1+1) (cU q)/\qY wv (w.heap.size+1+1+1+1) (cU r1)/\Below w.heap.size w wv:=⟨T1.aS hbv,T2.aS hbv,T3.aS hbv,T4.aS hbv,BT.trans (hbv.mono BT.size)⟩
      clear cc4 ff4 cc2 hbv T1 T2 T3 T4 BT R1 R2 R3 R4
      have T1:=V1;have T2:=V2;have T3:=V3;have T4:=V4;have BT:=BV
      have cc4:=V4.cell;have ff4:=V4.free;have cc2:=V2.cell
      go_wp2_with fail
      refine (D5.out _).mono ?_;rintro e wz ⟨rfl,hbz⟩
      have S1:=T1.aS hbz;have S2:=T2.aS hbz;have S3:=T3.aS hbz;have S4:=T4.aS hbz
      have BS:=BT.trans (hbz.mono BT.size)
      clear cc4 ff4 cc2
      have cc4:=S4.cell;have ff4:=S4.free;have ff3:=S3.free
      have cg:wz.cell? ⟨w.heap.size+1+1+1,m / 64,none⟩=some (.int .u64 (wd q (m / 64))):=by rw [S3.cell,vK q (m / 64) om]
      go_wp2
      go_region
      go_wp2
      go_roundg m
      case rel =>
       obtain ⟨y1,y2,y3⟩:=YES.out HGE.out
       rw [EI.out,F7 (m%64) om]
       refine ⟨by omega,rfl,?_,?_,?_,?_,?_⟩
       ·(exact bt)
       ·exact ((S1.eH om _ _ _ _).other om _).drew
       ·exact ((S2.eH om _ _ _ _).other om _).drew
       ·rw [y2,<- wG q (m / 64) (m%64) om om y3];exact ((S3.eH om _ _ _ _).set _).drew
       ·rw [y1];exact ((S4.zA _ _ _ _).other om _).drew
      case measure=>omega
     ·have hcm : pF r1 b < 0 := cmp_lt om
      have HGE:=IQ hge
      clear hr1 hge
      go_wp2_with fail
      refine (D4.out _).mono ?_;rintro e wv ⟨rfl,hbv⟩
      have V1:=T1.aS hbv;have V2:=T2.aS hbv;have V3:=T3.aS hbv;have V4:=T4.aS hbv;have BV:=BT.trans (hbv.mono BT.size)
      go_wp2
      go_roundg m
      case rel =>
       obtain ⟨y1,y2⟩:=NO.out (by have:=HGE.out;omega)
       rw [EI.out]
       exact ⟨by omega,rfl,BV,V1,V2,by rw [y2];exact V3,by rw [y1];exact V4⟩
      case measure=>omega
def wY (hi lo b:Nat):Nat:=if b<=hi then 0 else (hi*M+lo) / b
def rZ (hi lo b:Nat):Nat:=if b<=hi then 0 else (hi*M+lo)%b
theorem div_any (hi lo b:Nat) (w:Nu) (h1:hi<M) (h2:lo<M) (h3:b<M) :
 Calls prog 180 #[U hi,U lo,U b] w fun e w'=>e=.returned (.tuple #[U (wY hi lo b),U (rZ hi lo b),.bool (decide (hi<b))])/\Below w.heap.size w w':=by
 unfold wY rZ
 by_cases h:b<=hi
 ·rw [if_pos h,if_pos h,decide_eq_false om];exact div_no hi lo b w h1 h3 h
 ·rw [if_neg h,if_neg h,decide_eq_true om];exact div_yes hi lo b w h1 h2 h3 om
theorem rdiv_any (hi lo b:Nat) (w:Nu) (h1:hi<M) (h2:lo<M) (h3:b<M) :
 Calls prog 105 #[U hi,U lo,U b] w fun e w'=>e=.returned (.tuple #[U (wY hi lo b),U (rZ hi lo b),.bool (decide (hi<b))])/\Below w.heap.size w w':=by
 unfold wY rZ
 by_cases h:b<=hi
 ·rw [if_pos h,if_pos h,decide_eq_false om];exact rdiv_no hi lo b w h1 h3 h
 ·rw [if_neg h,if_neg h,decide_eq_true om];exact rdiv_yes hi lo b w h1 h2 h3 om
theorem divQ_lt (hi lo b:Nat) (h2:lo<M):wY hi lo b<M:=by
 unfold wY;split
 ·exact zL
 ·rw [Jn om]
  have:(hi+1)*M<=b*M:=Je _ om
  rw [Jg,IJ b] at this
  omega
section
open Go Go.Shelf
def lays129_ren:Go.Shelf.Ren:=⟨fun | 129=>131 | n=>n,fun | 3=>3 | 4=>4 | 5=>5 | 9=>9 | 46=>87 | 53=>52 | n=>n,fun | n=>n⟩
theorem lays129:Go.Proofs.Lays.n129 prog lays129_ren:={
 mixed:=by kernel_rfl
 f129:=func131.trans (congrArg some (by kernel_rfl))
 t3:=underlying3
 a3:=isAgg3
 z3:=sizeOf3
 v3:=zeroValue3
 t4:=underlying4
 a4:=isAgg4
 z4:=sizeOf4
 v4:=zeroValue4
 t5:=underlying5
 a5:=isAgg5
 z5:=sizeOf5
 v5:=zeroValue5
 t9:=underlying9
 a9:=isAgg9
 z9:=sizeOf9
 v9:=zeroValue9
 t46:=underlying87
 a46:=isAgg87
 z46:=sizeOf87
 v46:=zeroValue87
 t53:=underlying52
 a53:=isAgg52
 z53:=sizeOf52
 v53:=zeroValue52}
theorem len64_bit (x:Int) (w:Nu) (h0:0<=x) (h1:x<=18446744073709551615) :
 Calls prog 131 #[.int .u64 x] w fun e w'=>e=.returned (.int .i64 (Lib.bitLen x.toNat))/\w'=w:=Any.bits_Len64 lays129 x w h0 h1
def lays264_ren:Go.Shelf.Ren:=⟨fun | 264=>154 | n=>n,fun | 46=>87 | 53=>52 | n=>n,fun | n=>n⟩
theorem lays264:Go.Proofs.Lays.n264 prog lays264_ren:={
 mixed:=by kernel_rfl
 f264:=func154.trans (congrArg some (by kernel_rfl))
 t46:=underlying87
 a46:=isAgg87
 z46:=sizeOf87
 v46:=zeroValue87
 t53:=underlying52
 a53:=isAgg52
 z53:=sizeOf52
 v53:=zeroValue52}
theorem mul64_nat (x y:Nat) (hx:x<18446744073709551616) (hy:y<18446744073709551616) (w:Nu) :
 Calls prog 154 #[.int .u64 x,.int .u64 y] w fun e w'=>e=.returned (.tuple #[.int .u64 ((x*y / 18446744073709551616:Nat):Int),.int .u64 ((x*y%18446744073709551616:Nat):Int)])/\w'=w:=Any.bits_Mul64 lays264 x y hx hy w
end
variable {k:Nat}
def fJ (A:Nat):Nat:=if A=0 then 0 else Lm A+1
theorem lenN_of {A:Nat} (h1:2^k<=A) (h2:A<2^(k+1)):fJ A=k+1:=by
 have h0:A≠0:=by have:0<2^k:=I4 dC;omega
 unfold fJ
 rw [if_neg h0]
 have a:=(Nat.le_log2 h0).2 h1
 have b:=(L9 h0).2 h2
 omega
theorem EU {A:Nat} (h:A<2^k):fJ A<=k:=by
 unfold fJ
 by_cases h0:A=0
 ·rw [if_pos h0];omega
 ·rw [if_neg h0];exact (L9 h0).2 h
theorem bitLen_lenN (x:Nat) (h:x<18446744073709551616):Lib.bitLen x=fJ x:=by
 by_cases h0:x=0
 ·subst h0;rfl
 ·have h1 := Nat.log2_self_le h0
  have h2:x<2^(Lm x+1):=(L9 h0).1 om
  rw [Lib.bitLen_shift (Lm x) x h1 h,lenN_of h1 h2]
  have:x / 2^Lm x=1:=by
   apply Nat.div_eq_of_lt_le
   ·omega
   ·rw [IZ] at h2;omega
  rw [this];rfl
theorem Fb (x:Int) (w:Nu) (hx:jH x) :
 Calls prog 131 #[.int .u64 x] w fun e w'=>e=.returned (.int .i64 (fJ x.toNat))/\w=w':=by
 have h:=len64_bit x w hx.1 (by have:=hx.2;omega)
 rw [bitLen_lenN _ (by have:=hx.1;have:=hx.2;omega)] at h
 exact h.mono fun e w' ⟨a,b⟩=>⟨a,b.symm⟩
theorem len_word (A q:Nat) (x:Int) (hx:jH x) (h0:x≠0) (l:Nat) (hl:l<2^(64*q)) (hA:(A:Int)=x*2^(64*q)+l):fJ A=64*q+fJ x.toNat:=by
 obtain ⟨y,rfl⟩:=KA hx.1
 have hy:y≠0:=fun h=>h0 (by rw [h];rfl)
 rw [Jm]
 have e:A=y*2^(64*q)+l:=by
  have:((A:Nat):Int)=((y*2^(64*q)+l:Nat):Int):=by rw [hA];simp
  omega
 have h1:=Nat.log2_self_le hy
 have h2:y<2^(Lm y+1):=(L9 hy).1 om
 have hp:0<2^(64*q):=I4 dC
 have k1:2^(64*q+Lm y)<=A:=by
  rw [Jd,IJ,e]
  exact Jq (Je _ h1) (Nat.le_add_right _ _)
 have k2:A<2^(64*q+Lm y+1):=by
  rw [MH,Jd,IJ,e]
  have:(y+1)*2^(64*q)<=2^(Lm y+1)*2^(64*q):=Je _ h2
  rw [Jg] at this
  omega
 rw [lenN_of k1 k2,lenN_of h1 h2];omega
theorem len3 {A:Nat} (hA:A<M) (h:wd A 3≠0):fJ A=192+fJ (wd A 3).toNat:=by
 have e:=uM A hA
 have a0:=dA A 0;have a1:=dA A 1;have a2:=dA A 2
 unfold jH at a0 a1 a2
 refine len_word A 3 (wd A 3) (dA A 3) h (wd A 0+18446744073709551616*wd A 1+340282366920938463463374607431768211456*wd A 2).toNat ?_ ?_
 ·rw [show (2:Nat)^(64*3)=6277101735386680763835789423207666416102355444464034512896 from rfl];omega
 ·rw [show (2:Int)^(64*3)=6277101735386680763835789423207666416102355444464034512896 from rfl];omega
theorem len2 {A:Nat} (hA:A<M) (h3:wd A 3=0) (h:wd A 2≠0):fJ A=128+fJ (wd A 2).toNat:=by
 have e:=uM A hA
 have a0:=dA A 0;have a1:=dA A 1
 unfold jH at a0 a1
 refine len_word A 2 (wd A 2) (dA A 2) h (wd A 0+18446744073709551616*wd A 1).toNat ?_ ?_
 ·rw [show (2:Nat)^(64*2)=340282366920938463463374607431768211456 from rfl];omega
 ·rw [show (2:Int)^(64*2)=340282366920938463463374607431768211456 from rfl];omega
theorem len1 {A:Nat} (hA:A<M) (h3:wd A 3=0) (h2:wd A 2=0) (h:wd A 1≠0):fJ A=64+fJ (wd A 1).toNat:=by
 have e:=uM A hA
 have a0:=dA A 0
 unfold jH at a0
 refine len_word A 1 (wd A 1) (dA A 1) h (wd A 0).toNat ?_ ?_
 ·rw [show (2:Nat)^(64*1)=18446744073709551616 from rfl];omega
 ·rw [show (2:Int)^(64*1)=18446744073709551616 from rfl];omega
theorem len0 {A:Nat} (hA:A<M) (h3:wd A 3=0) (h2:wd A 2=0) (h1:wd A 1=0):fJ A=fJ (wd A 0).toNat:=by
 have e:=uM A hA
 congr 1;have:=wP A 0;omega
theorem qG (A:Nat) (hA:A<M):fJ A<=256:=EU (by rw [<- M_pow];exact hA)
set_option maxHeartbeats 1000000 in
theorem len_any (A : Nat) (w : Nu) (hA : A < M) :
 Calls prog 174 #[U A] w fun e w'=>e=.returned (.int .i64 (fJ A))/\Below w.heap.size w w':=by
 obtain ⟨n,en⟩:∃ n,n=fJ A:=⟨_,rfl⟩
 have hn:n<=256:=by rw [en];exact qG A hA
 rw [<- en]
 by_cases z3:wd A 3=0
 ·by_cases z2 : wd A 2 = 0
  ·by_cases z1 : wd A 1 = 0
   ·by_cases z0 : wd A 0 = 0
    ·have en0 : n = 0 := by rw [en, len0 hA z3 z2 z1, z0]; rfl
     have t3:(wd A 3 != 0)=false:=by rw [z3];rfl
     have t2:(wd A 2 != 0)=false:=by rw [z2];rfl
     have t1:(wd A 1 != 0)=false:=by rw [z1];rfl
     have t0:(wd A 0 != 0)=false:=by rw [z0];rfl
     have EN:=IQ en0
     clear z0 z1 z2 z3 en en0 hn
     go_enter func174,Tryz.ntmps174
     go_wp2
     refine wp_loop_rounds 5 ?_
     repeat (rw [rounds_succ];go_wp2)
     go_ret
     refine ⟨by rw [EN.out];rfl,?_⟩
     (exact bt)
    ·have en0 : n = 0 + fJ (wd A 0).toNat := by rw [en, len0 hA z3 z2 z1]; omega
     have t3:(wd A 3 != 0)=false:=by rw [z3];rfl
     have t2:(wd A 2 != 0)=false:=by rw [z2];rfl
     have t1:(wd A 1 != 0)=false:=by rw [z1];rfl
     have t0:(wd A 0 != 0)=true:=by simpa using z0
     have lb:=EU (A:=(wd A 0).toNat) (k:=64) (by have:=wd_lt A 0;have:=wP A 0;omega)
     have L:=IQ (fun W=>Fb (wd A 0) W (dA A 0))
     clear z0
     have EN:=IQ en0
     clear en en0 hn
     (try clear z1)
     (try clear z2)
     (try clear z3)
     go_enter func174,Tryz.ntmps174
     go_wp2
     refine wp_loop_rounds 5 ?_
     repeat (rw [rounds_succ];go_wp2_with fail)
     refine (L.out _).mono ?_;rintro e w' ⟨rfl,rfl⟩
     go_wp2
     go_ret
     refine ⟨Bh ?_,?_⟩
     ·have:=EN.out;omega
     ·(exact bt)
   ·have en0 : n = 64 + fJ (wd A 1).toNat := by rw [en, len1 hA z3 z2 z1]
    have t3:(wd A 3 != 0)=false:=by rw [z3];rfl
    have t2:(wd A 2 != 0)=false:=by rw [z2];rfl
    have t1:(wd A 1 != 0)=true:=by simpa using z1
    have lb:=EU (A:=(wd A 1).toNat) (k:=64) (by have:=wd_lt A 1;have:=wP A 1;omega)
    have L:=IQ (fun W=>Fb (wd A 1) W (dA A 1))
    have EN:=IQ en0
    clear en en0 hn
    (try clear z1)
    (try clear z2)
    (try clear z3)
    go_enter func174,Tryz.ntmps174
    go_wp2
    refine wp_loop_rounds 5 ?_
    repeat (rw [rounds_succ];go_wp2_with fail)
    refine (L.out _).mono ?_;rintro e w' ⟨rfl,rfl⟩
    go_wp2
    go_ret
    refine ⟨Bh ?_,?_⟩
    ·have:=EN.out;omega
    ·(exact bt)
  ·have en0 : n = 128 + fJ (wd A 2).toNat := by rw [en, len2 hA z3 z2]
   have t3:(wd A 3 != 0)=false:=by rw [z3];rfl
   have t2:(wd A 2 != 0)=true:=by simpa using z2
   have lb:=EU (A:=(wd A 2).toNat) (k:=64) (by have:=wd_lt A 2;have:=wP A 2;omega)
   have L:=IQ (fun W=>Fb (wd A 2) W (dA A 2))
   have EN:=IQ en0
   clear en en0 hn
   (try clear z1)
   (try clear z2)
   (try clear z3)
   go_enter func174,Tryz.ntmps174
   go_wp2
   refine wp_loop_rounds 5 ?_
   repeat (rw [rounds_succ];go_wp2_with fail)
   refine (L.out _).mono ?_;rintro e w' ⟨rfl,rfl⟩
   go_wp2
   go_ret
   refine ⟨Bh ?_,?_⟩
   ·have:=EN.out;omega
   ·(exact bt)
 ·have en0 : n = 192 + fJ (wd A 3).toNat := by rw [en, len3 hA z3]
  have t3:(wd A 3 != 0)=true:=by simpa using z3
  have lb:=EU (A:=(wd A 3).toNat) (k:=64) (by have:=wd_lt A 3;have:=wP A 3;omega)
  have L:=IQ (fun W=>Fb (wd A 3) W (dA A 3))
  have EN:=IQ en0
  clear en en0 hn
  (try clear z1)
  (try clear z2)
  (try clear z3)
  go_enter func174,Tryz.ntmps174
  go_wp2
  refine wp_loop_rounds 5 ?_
  repeat (rw [rounds_succ];go_wp2_with fail)
  refine (L.out _).mono ?_;rintro e w' ⟨rfl,rfl⟩
  go_wp2
  go_ret
  refine ⟨Bh ?_,?_⟩
  ·have:=EN.out;omega
  ·(exact bt)
variable {m:Nat}
set_option maxHeartbeats 1000000 in
theorem rfromuint_any (n:Int) (w:Nu) (hn:jH n) :
 Calls prog 75 #[.int .u64 n] w fun e w'=>e=.returned (U n.toNat)/\Below w.heap.size w w':=by
 obtain ⟨n,rfl⟩:=KA hn.1
 have h2:=hn.2
 go_enter func75,Tryz.ntmps75
 go_wp2
 go_returns
 refine ⟨ret_U (U_small n om),?_⟩
 (exact bt)
set_option maxHeartbeats 1000000 in
theorem o9 (A:Nat) (w:Nu) (hA:A<M) :
 Calls prog 64 #[U A] w fun e w'=>e=.returned (.bool (decide (A=0)))/\Below w.heap.size w w':=by
 have E:=fun W=>eqlU0 A hA W
 go_enter func64,Tryz.ntmps64
 go_wp2
 go_ret
 refine ⟨rfl,?_⟩
 (exact bt)
theorem bit_lt {A:Nat} (h:A<2^(m+1)) (hb:xO A m=false):A<2^m:=by
 unfold xO at hb
 have:=of_decide_eq_false hb
 have h2:A / 2^m<2:=by rw [Jn (I4 dC)];rw [IZ] at h;omega
 have h3:A / 2^m=0:=by generalize A / 2^m=y at *;omega
 exact L6 (I4 dC) h3
theorem bit_ge {A:Nat} (hb:xO A m=true):2^m<=A:=by
 unfold xO at hb
 have h1:=of_decide_eq_true hb
 refine Nat.le_of_not_lt (fun h=>?_)
 rw [IP h] at h1
 omega
set_option maxHeartbeats 1000000 in
theorem rlen_any (A : Nat) (w : Nu) (hA : A < M) :
 Calls prog 87 #[U A] w fun e w'=>e=.returned (.int .i64 (fJ A))/\Below w.heap.size w w':=by
 obtain ⟨n,en⟩:∃ n,n=fJ A:=⟨_,rfl⟩
 rw [<- en]
 have EN:=IQ en
 clear en
 go_enter func87,Tryz.ntmps87
 go_wp2
 go_loopg [3] 256 (fun k p wr=>k<=256/\p=.int .i64 (k-1)/\Hid (A<2^k)/\qY wr w.heap.size (cU A)/\Below w.heap.size w wr)
 case atStart=>exact ⟨by omega,rfl,IQ (by rw [<- M_pow];exact hA),qY.new _,(Below.refl _ _).alloc (IR _) _⟩
 case round =>
  obtain ⟨hk,rfl,hlt,O,hB⟩:=hrel
  by_cases hk0:gk=0
  ·subst hk0
   go_wp2
   go_ret
   refine ⟨Bh ?_,hB⟩
   have:=hlt.out
   rw [EN.out,show A=0 by simpa using this];rfl
  ·obtain ⟨m, rfl⟩ : ∃ m, gk = m + 1 := ⟨gk - 1, by omega⟩
   have eg:((m+1:Nat):Int)-1=m:=by omega
   rw [eg]
   clear eg
   have c0:=O.cell
   have m256:m<256:=by omega
   cases hb:xO A m with
   | true =>
     have L:=IQ (fun W=>BG A m W m256)
     rw [hb] at L
     have HB:=IQ hb
     clear hb
     go_wp2_with fail
     refine (L.out _).mono ?_;rintro e w1 ⟨rfl,hb1⟩
     go_wp2
     go_ret
     refine ⟨Bh ?_,hB.trans (hb1.mono hB.size)⟩
     rw [EN.out,lenN_of (bit_ge HB.out) hlt.out];omega
   | false =>
     have L:=IQ (fun W=>BG A m W m256)
     rw [hb] at L
     have HB:=IQ hb
     clear hb
     go_wp2_with fail
     refine (L.out _).mono ?_;rintro e w1 ⟨rfl,hb1⟩
     go_wp2
     go_roundg m
     case rel=>exact ⟨by omega,rfl,IQ (bit_lt hlt.out HB.out),O.aS hb1,hB.trans (hb1.mono hB.size)⟩
     case measure=>omega
variable {a:Nat}
theorem Du (x:Nat):x%M<M:=Js _ zL
theorem xG (n:Nat) (w:Nu) (hn:n<18446744073709551616):Calls prog 126 #[.int .u64 n] w fun e w'=>e=.returned (U n)/\Below w.heap.size w w':=by
 have h:=fromuint_any n w ⟨by omega,by omega⟩
 exact h
theorem lZ (n:Nat) (w:Nu) (hn:n<18446744073709551616):Calls prog 75 #[.int .u64 n] w fun e w'=>e=.returned (U n)/\Below w.heap.size w w':=by
 have h:=rfromuint_any n w ⟨by omega,by omega⟩
 exact h
def fQ (a m:Nat):Nat:=if m=0 then 0 else a%m
theorem Iq (h:a<M):fQ a m<M:=by
 unfold fQ;split
 ·exact zL
 ·exact MM (Nat.mod_le _ _) h
theorem cmpN_neg:pF a b<0↔a<b:=by
 unfold pF;split
 ·simp;assumption
 ·split<;>simp<;>omega
theorem red_lt (h:decide (pF a m<0)=true):a=fQ a m:=by
 have h1:=cmpN_neg.1 (of_decide_eq_true h)
 unfold fQ;rw [if_neg om,IK h1]
theorem red_div0 (a m:Nat):rZ 0 a m=fQ a m:=by
 unfold fQ rZ
 by_cases h0:m=0
 ·rw [if_pos om,if_pos h0]
 ·rw [if_neg om,if_neg h0,KD,JR]
theorem red_div (_h:decide (pF a m<0)=false):rZ 0 a m=fQ a m:=by
 unfold fQ rZ
 by_cases h0:m=0
 ·rw [if_pos om,if_pos h0]
 ·rw [if_neg om,if_neg h0,KD,JR]
def kS (a b m:Nat):Nat:=if m=0 then 0 else (a*b)%m
def kV (a e m:Nat):Nat:=if m=0 then 0 else a^e%m
theorem modz_lt (x:Nat) (h:m<M):(if m=0 then 0 else x%m)<M:=by
 split
 ·exact zL
 ·exact J8 (Js _ om) h
theorem mulmN_lt (a b:Nat) (h:m<M):kS a b m<M:=modz_lt _ h
theorem expmN_lt (a b:Nat) (h:m<M):kV a b m<M:=modz_lt _ h
theorem Ai (h:decide (m=0)=false):fQ a m=a%m/\0<m/\a%m<m:=by
 have h0:m≠0:=of_decide_eq_false h
 unfold fQ;rw [if_neg h0]
 exact ⟨rfl,by omega,Js _ om⟩
theorem mulm_0 (h:decide (m=0)=true):0=kS a b m:=by unfold kS;rw [if_pos (of_decide_eq_true h)]
theorem mulm_0' (h:decide (m=0)=true):m=kS a b m:=by rw [<- mulm_0 h];exact of_decide_eq_true h
theorem expm_0 (h:decide (m=0)=true):0=kV a b m:=by unfold kV;rw [if_pos (of_decide_eq_true h)]
theorem expm_0' (h:decide (m=0)=true):m=kV a b m:=by rw [<- expm_0 h];exact of_decide_eq_true h
theorem mulm_1 (h1:decide (m=0)=false):rZ (fQ (a*b / M) m) (a*b%M) m=kS a b m:=by
 obtain ⟨e1,p,l1⟩:=Ai (a:=a*b / M) h1
 unfold rZ kS
 rw [e1,if_neg om,if_neg om,Nc,Mc,Nat.mod_mod,<- Mc,<- Nc,IJ (a*b / M),JF]
theorem mulm_2 (hm:m<M) (h1:decide (m=0)=false):rZ (fQ a m*fQ b m / M) (fQ a m*fQ b m%M) m=kS a b m:=by
 obtain ⟨e1,p,l1⟩:=Ai (a:=a) h1
 obtain ⟨e2,_,l2⟩:=Ai (a:=b) h1
 rw [e1,e2]
 have hlt:a%m*(b%m) / M<m:=by
  rw [Jn zL]
  have:a%m*(b%m)<=(m-1)*m:=KF om om
  have h3:(m-1)*m<m*m:=JY om p
  have h4:m*m<=m*M:=Nat.mul_le_mul_left _ om
  omega
 unfold rZ kS
 rw [if_neg om,if_neg om,IJ (a%m*(b%m) / M),JF,<- Mc]
variable {y:Int} {j:Nat}
def c8 (f:Nat->Int):Array Ns:= #[.int .u64 (f 0),.int .u64 (f 1),.int .u64 (f 2),.int .u64 (f 3),.int .u64 (f 4),.int .u64 (f 5),.int .u64 (f 6),.int .u64 (f 7)]
def Be (f:Nat->Int) (k:Nat) (x:Int):Nat->Int:=fun j=>if j=k then x else f j
theorem lt8 (h:k<8):k=0\/k=1\/k=2\/k=3\/k=4\/k=5\/k=6\/k=7:=by omega
theorem c8_get (f:Nat->Int) (k:Nat) (h:k<8):(c8 f)[k]? = some (.int .u64 (f k)):=by
 rcases lt8 h with rfl | rfl | rfl | rfl | rfl | rfl | rfl | rfl<;>rfl
theorem c8_set (f:Nat->Int) (k:Nat) (x:Int) (h:k<8):(c8 f).setIfInBounds k (.int .u64 x)=c8 (Be f k x):=by
 rcases lt8 h with rfl | rfl | rfl | rfl | rfl | rfl | rfl | rfl<;>simp [c8,Be]
def S8 (f:Nat->Int):Int:=f 0+18446744073709551616*f 1+340282366920938463463374607431768211456*f 2+6277101735386680763835789423207666416102355444464034512896*f 3+115792089237316195423570985008687907853269984665640564039457584007913129639936*f 4+2135987035920910082395021706169552114602704522356652769947041607822219725780640550022962086936576*f 5+39402006196394479212279040100143613805079739270465446667948293404245721771497210611414266254884915640806627990306816*f 6+726838724295606890549323807888004534353641360687318060281490199180639288113397923326191050713763565560762521606266177933534601628614656*f 7
def pw (k:Nat):Int:=18446744073709551616^k
theorem pw_vals:pw 0=1/\pw 1=18446744073709551616/\pw 2=340282366920938463463374607431768211456/\pw 3=6277101735386680763835789423207666416102355444464034512896/\pw 4=115792089237316195423570985008687907853269984665640564039457584007913129639936/\pw 5=2135987035920910082395021706169552114602704522356652769947041607822219725780640550022962086936576/\pw 6=39402006196394479212279040100143613805079739270465446667948293404245721771497210611414266254884915640806627990306816/\pw 7=726838724295606890549323807888004534353641360687318060281490199180639288113397923326191050713763565560762521606266177933534601628614656:=by
 decide +kernel
def mG (A B i:Nat):Nat->Int
 | 0=>0
 | j+1=>mG A B i j+wd A i*wd B j*pw (i+j)
def mH (A B:Nat):Nat->Int
 | 0=>0
 | i+1=>mH A B i+mG A B i 4
structure MulO (A B i:Nat) (f:Nat->Int):Prop where
 word:∀ k,jH (f k)
 zero:∀ k,i+4<=k->f k=0
 sum:S8 f=mH A B i
structure MulI (A B i j:Nat) (f:Nat->Int) (c:Int):Prop where
 car:jH c
 word:∀ k,jH (f k)
 zero:∀ k,i+4<=k->f k=0
 sum:S8 f+c*pw (i+j)=mH A B i+mG A B i j
theorem mulO_zero (A B:Nat):MulO A B 0 (fun _=>0):=⟨fun _=>BU,fun _ _=>rfl,by simp [S8,mH]⟩
theorem mulO_begin {A:Nat} {f:Nat->Int} (h:MulO A B i f):MulI A B i 0 f 0:=⟨BU,h.word,h.zero,by rw [h.sum];simp [mG]⟩
theorem mulI_end {A:Nat} {f:Nat->Int} (hi:i<4) (h:MulI A B i 4 f c):MulO A B (i+1) (Be f (i+4) c):=by
 refine ⟨fun k=>?_,fun k hk=>?_,?_⟩
 ·unfold Be; split
  ·exact h.car
  ·exact h.word k
 ·unfold Be;rw [if_neg om];exact h.zero k om
 ·have hz := h.zero (i + 4) om
  have hs:=h.sum
  show _=mH A B i+mG A B i 4
  rw [<- hs]
  obtain ⟨p0,p1,p2,p3,p4,p5,p6,p7⟩:=pw_vals
  rcases (by omega:i=0\/i=1\/i=2\/i=3) with rfl | rfl | rfl | rfl<;>simp only [S8,Be,MI,Nat.reduceEqDiff,if_true,if_false,p4,p5,p6,p7] at hz ⊢ <;> rw [hz]<;>omega
theorem mul_bound (hx:jH x) (hy:jH y):0<=x*y/\x*y<=340282366920938463426481119284349108225:=by
 unfold jH at *
 refine ⟨Int.mul_nonneg hx.1 hy.1,?_⟩
 have h1:x*y<=18446744073709551615*y:=Int.mul_le_mul_of_nonneg_right om hy.1
 omega
theorem u64_wrap (n:Int):I7.wrap n=n%18446744073709551616:=KP n
theorem mul_step {u:Int} (hx:jH x) (hy:jH y) (hu:jH u) (hc:jH c) :
 fU (fU (fO x y) u 0) c 0+18446744073709551616*(I7.wrap (I7.wrap (xQ x y+gZ (fO x y) u 0)+gZ (fU (fO x y) u 0) c 0))=x*y+u+c /\
  jH (I7.wrap (I7.wrap (xQ x y+gZ (fO x y) u 0)+gZ (fU (fO x y) u 0) c 0)):=by
 have hb:=mul_bound hx hy
 have e1:=mul_eq x y
 have w1:=Gp x y
 have e2:=add_eq w1 hu sW
 have w2:=pJ (fO x y) u 0
 have b2:=uX (fO x y) u 0
 have e3:=add_eq w2 hc sW
 have w3:=pJ (fU (fO x y) u 0) c 0
 have b3:=uX (fU (fO x y) u 0) c 0
 rw [u64_wrap,u64_wrap]
 generalize gZ (fU (fO x y) u 0) c 0=q3 at *
 generalize fU (fU (fO x y) u 0) c 0=r3 at *
 generalize gZ (fO x y) u 0=q2 at *
 generalize fU (fO x y) u 0=r2 at *
 generalize fO x y=r1 at *
 generalize xQ x y=q1 at *
 generalize x*y=p at *
 unfold jH FI at *
 omega
theorem addLo_comm (x y c:Int):fU x y c=fU y x c:=by unfold fU;rw [Int.add_comm x y]
theorem addHi_comm (x y c:Int):gZ x y c=gZ y x c:=by unfold gZ;rw [Int.add_comm x y]
theorem rmul_step {u:Int} (hx:jH x) (hy:jH y) (hu:jH u) (hc:jH c) :
 fU (fU u (fO x y) 0) c 0+18446744073709551616*(I7.wrap (I7.wrap (xQ x y+gZ u (fO x y) 0)+gZ (fU u (fO x y) 0) c 0))=x*y+u+c /\
  jH (I7.wrap (I7.wrap (xQ x y+gZ u (fO x y) 0)+gZ (fU u (fO x y) 0) c 0)):=by
 rw [addLo_comm u (fO x y),addHi_comm u (fO x y)]
 exact mul_step hx hy hu hc
theorem mulI_next {A:Nat} {f:Nat->Int} {w c':Int} (hi:i<4) (hj:j<4) (h:MulI A B i j f c) (hw:jH w) (hc':jH c') (he:w+18446744073709551616*c'=wd A i*wd B j+f (i+j)+c) :
 MulI A B i (j+1) (Be f (i+j) w) c':=by
 refine ⟨hc',fun k=>?_,fun k hk=>?_,?_⟩
 ·unfold Be; split
  ·exact hw
  ·exact h.word k
 ·unfold Be;rw [if_neg om];exact h.zero k hk
 ·have hs := h.sum
  show _=mH A B i+(mG A B i j+wd A i*wd B j*pw (i+j))
  generalize wd A i*wd B j=p at *
  rw [<- Int.add_assoc,<- hs]
  obtain ⟨p0,p1,p2,p3,p4,p5,p6,p7⟩:=pw_vals
  clear hs
  rcases (by omega:i=0\/i=1\/i=2\/i=3) with rfl | rfl | rfl | rfl<;>rcases (by omega:j=0\/j=1\/j=2\/j=3) with rfl | rfl | rfl | rfl <;>
   simp only [S8,Be,MI,Nat.reduceEqDiff,if_true,if_false,p0,p1,p2,p3,p4,p5,p6,p7] at he ⊢ <;> omega
theorem mul_four (x b0 b1 b2 b3:Int):x*(b0+18446744073709551616*b1+340282366920938463463374607431768211456*b2+6277101735386680763835789423207666416102355444464034512896*b3)=x*b0+18446744073709551616*(x*b1)+340282366920938463463374607431768211456*(x*b2)+6277101735386680763835789423207666416102355444464034512896*(x*b3):=by
 rw [Nh,Nh,Nh,LC x _ b1,LC x _ b2,LC x _ b3]
theorem mH_four {A:Nat} (hA:A<M) (hB:B<M):mH A B 4=((A*B:Nat):Int):=by
 have ea:=uM A hA;have eb:=uM B hB
 obtain ⟨p0,p1,p2,p3,p4,p5,p6,p7⟩:=pw_vals
 have e:((A*B:Nat):Int)=(wd A 0+18446744073709551616*wd A 1+340282366920938463463374607431768211456*wd A 2+6277101735386680763835789423207666416102355444464034512896*wd A 3)*(B:Int):=by
  rw [<- ea,Int.natCast_mul]
 rw [e,Nj,Nj,Nj,MJ,MJ,MJ,eb]
 simp only [mul_four]
 simp only [mH,mG,MI,JR,JS,p0,p1,p2,p3,p4,p5,p6]
 omega
theorem mul_end {A:Nat} {f:Nat->Int} (hA:A<M) (hB:B<M) (h:MulO A B 4 f) :
 LW (.tuple #[.agg #[.int .u64 (f 4),.int .u64 (f 5),.int .u64 (f 6),.int .u64 (f 7)],.agg #[.int .u64 (f 0),.int .u64 (f 1),.int .u64 (f 2),.int .u64 (f 3)]])=.returned (.tuple #[U (A*B / M),U (A*B%M)]):=by
 have hs:=h.sum
 rw [mH_four hA hB] at hs
 have w0:=h.word 0;have w1:=h.word 1;have w2:=h.word 2;have w3:=h.word 3;have w4:=h.word 4;have w5:=h.word 5;have w6:=h.word 6;have w7:=h.word 7
 have l1:=ofW_sum w0 w1 w2 w3
 have l2:=ofW_sum w4 w5 w6 w7
 have t1:=ofW_lt w0 w1 w2 w3
 have key:A*B=ofW (f 4) (f 5) (f 6) (f 7)*M+ofW (f 0) (f 1) (f 2) (f 3):=by
  unfold S8 at hs
  rw [wZ] at *
  omega
 have e1:A*B / M=ofW (f 4) (f 5) (f 6) (f 7):=by
  rw [key,IJ,Nat.mul_add_div zL,IP t1,JS]
 have e2:A*B%M=ofW (f 0) (f 1) (f 2) (f 3):=by
  rw [key,IJ,Nat.mul_add_mod,IK t1]
 rw [e1,e2,Cj _ w4 w5 w6 w7 l2,Cj _ w0 w1 w2 w3 l1]
theorem HY {A:Nat} (hA:A<M) (hB:B<M):A*B / M<M:=by
 rw [Jn zL]
 exact Nat.mul_lt_mul_of_lt_of_lt hA hB
theorem iW (x y:Nat) (h:x+y<9223372036854775808):LD.wrap ((x:Int)+(y:Int))=((x+y:Nat):Int):=by
 rw [KG _ om];omega
variable {n:Nat}
def shlW (x:Int) (k:Nat):Int:=I7.wrap (x*2^min k 64)
def shrW (x:Int) (k:Nat):Int:=x.fdiv (2^min k 64)
theorem run_shl {t:Nw} {yk:Ny} (x:Int) (k:Nat) (w:Nu):(binOp .shl t (.int .u64 x) (.int yk (k:Int))).run P w=.ok (.int .u64 (shlW x k)) w:=by
 simp only [binOp,Op.shift,if_neg (by omega: ¬ (k:Int)<0),Jm]
 rfl
theorem run_shr {t:Nw} {yk:Ny} (x:Int) (k:Nat) (w:Nu):(binOp .shr t (.int .u64 x) (.int yk (k:Int))).run P w=.ok (.int .u64 (shrW x k)) w:=by
 simp only [binOp,Op.shift,if_neg (by omega: ¬ (k:Int)<0),Jm]
 rfl
theorem run_quo_nat {t:Nw} (n d q:Nat) (hd:0<d) (hn:n<9223372036854775808) (hq:n / d=q) (w:Nu):(binOp .quo t (.int .i64 (n:Int)) (.int .i64 (d:Int))).run P w=.ok (.int .i64 (q:Int)) w:=by
 have e:Int.tdiv (n:Int) (d:Int)=(q:Int):=by rw [Int.tdiv_eq_ediv_of_nonneg om,<- hq];simp
 have h1:q<=n:=by rw [<- hq];exact Nat.div_le_self _ _
 simp only [binOp,Op.intDiv,ne_eq,not_true_eq_false,if_false,if_neg (by omega: ¬ (d:Int)=0),e,KG (q:Int) om]
 rfl
theorem run_rem_nat {t:Nw} (n d q:Nat) (hd:0<d) (hq:n%d=q) (w:Nu):(binOp .rem t (.int .i64 (n:Int)) (.int .i64 (d:Int))).run P w=.ok (.int .i64 (q:Int)) w:=by
 have e:MV (n:Int) (d:Int)=(q:Int):=by rw [Int.tmod_eq_emod_of_nonneg om,<- hq];simp
 simp only [binOp,Op.intDiv,ne_eq,not_true_eq_false,if_false,if_neg (by omega: ¬ (d:Int)=0),e]
 rfl
theorem Ih (x y:Nat) (h:y<=x) (hx:x<9223372036854775808):LD.wrap ((x:Int)-(y:Int))=((x-y:Nat):Int):=by
 rw [KG _ om];omega
def shrZ (a:Nat) (n:Int):Nat:=if n<0 then a else a / 2^n.toNat
theorem shrN_big (ha:a<M) (h:256<=n):a / 2^n=0:=by
 apply IP
 have:(2:Nat)^256<=2^n:=IW dC h
 rw [show M=2^256 by rw [wZ]] at ha
 omega
theorem bits_or_comm (x y:Int):bits .or .u64 x y=bits .or .u64 y x:=by
 simp only [bits,BitVec.or_comm]
theorem setlow_row (q g m : Nat) (hg : g < 4) (hm : m < 64) (h : q < 2 ^ (64 * g + m)) : (cU q).setIfInBounds g (.int .u64 (bits .or .u64 (wd q g) (2 ^ m))) = cU (q + 2 ^ (64 * g + m)) := by
 have hl:∀ j,j<g->wd (q+2^(64*g+m)) j=wd q j:=fun j hj=>setbit_lo q _ j om
 have hpos:0<2^(64*g):=I4 dC
 have hlt:q / 2^(64*g)<2^m:=by
  rw [Jn hpos,<- Jd,JQ m];exact h
 have h64:(2:Nat)^m<18446744073709551616:=by
  have:(2:Nat)^m<2^64:=JH dC hm
  omega
 have hW:∀ j,(18446744073709551616:Nat)^j=2^(64*j):=fun j=>by rw [KW]
 have hz:∀ j,g<j->wd (q+2^(64*g+m)) j=wd q j:=by
  intro j hj
  have hb:(2:Nat)^(64*g+m)+2^(64*g+m)<=2^(64*j):=by
   rw [<- Md,<- JV]
   exact IW dC om
  unfold wd
  rw [hW,IP om,IP om]
 have hg':bits .or .u64 (wd q g) (2^m)=wd (q+2^(64*g+m)) g:=by
  have e1:wd q g=((q / 2^(64*g):Nat):Int):=by
   unfold wd;rw [hW,IK om]
  have e2:wd (q+2^(64*g+m)) g=((q / 2^(64*g)+2^m:Nat):Int):=by
   unfold wd
   rw [hW,Jd,Nat.add_mul_div_left _ _ hpos,IK]
   have:(2:Nat)^m+2^m<=2^64:=by
    rw [<- Md,<- JV];exact IW dC om
   omega
  rw [e1,e2,bits_or_comm]
  clear e1 e2 hl hz
  generalize q / 2^(64*g)=d at *
  have ec:((2:Int)^m)=((2^m:Nat):Int):=by simp
  have h1:=Dl 1 (d:Int) m om om (by rw [ec];omega) (by
   have:(2:Nat)^m+2^m<=2^64:=by
    rw [<- Md,<- JV];exact IW dC om
   rw [ec];omega)
  rw [Int.one_mul] at h1
  rw [h1,ec];omega
 rw [hg']
 generalize q+2^(64*g+m)=q' at *
 rcases (by omega:g=0\/g=1\/g=2\/g=3) with rfl | rfl | rfl | rfl
 ·show #[_,_,_,_]=_;rw [cU,hz 1 om,hz 2 om,hz 3 om]
 ·show #[_,_,_,_]=_;rw [cU,hl 0 om,hz 2 om,hz 3 om]
 ·show #[_,_,_,_]=_;rw [cU,hl 0 om,hl 1 om,hz 3 om]
 ·show #[_,_,_,_]=_;rw [cU,hl 0 om,hl 1 om,hl 2 om]
theorem low_next (x i:Nat):x%2^(i+1)=x%2^i+(if x / 2^i%2=1 then 2^i else 0):=by
 rw [Nat.mod_pow_succ]
 rcases (by omega:x / 2^i%2=0\/x / 2^i%2=1) with h | h<;>simp [h]
theorem shr_bit (a n i:Nat):a / 2^(i+n)%2=a / 2^n / 2^i%2:=by rw [IM,<- Jd,JQ n i]
theorem shr_all (ha:a<M) (h:256<=i+n):a / 2^n%2^i=a / 2^n:=by
 apply IK
 rw [Jn (I4 dC),<- Jd]
 have:(2:Nat)^256<=2^(i+n):=IW dC h
 rw [show M=2^256 by rw [wZ]] at ha
 omega
variable {x e:Nat}
theorem div_lenN (e:Nat):e / 2^fJ e=0:=by
 apply IP
 unfold fJ
 split
 ·rename_i h;rw [h];exact I4 dC
 ·exact Nat.lt_log2_self
theorem exp_step (hp:p=a^x%m) (hm:0<m):kS p p m=a^(2*x)%m:=by
 unfold kS
 rw [if_neg om,hp,<- Mc,Md,Jd]
theorem exp_step1 (hp:p=a^x%m) (hm:0<m):kS (kS p p m) a m=a^(2*x+1)%m:=by
 rw [exp_step hp hm]
 unfold kS
 rw [if_neg om,Nat.mod_mul_mod,IZ]
theorem half_even (h0:0<k) (h:xO e (k-1)=false):2*(e / 2^k)=e / 2^(k-1):=by
 unfold xO at h
 have h:=of_decide_eq_false h
 have e1:2^k=2^(k-1)*2:=by rw [<- IZ];congr 1;omega
 rw [e1,<- IM]
 omega
theorem half_odd (h0:0<k) (h:xO e (k-1)=true):2*(e / 2^k)+1=e / 2^(k-1):=by
 unfold xO at h
 have h:=of_decide_eq_true h
 have e1:2^k=2^(k-1)*2:=by rw [<- IZ];congr 1;omega
 rw [e1,<- IM]
 omega
theorem exp_start (h:decide (m=0)=false):fQ 1 m=a^(e / 2^fJ e)%m:=by
 rw [(Ai h).1,div_lenN,KC]
theorem exp_lt (hm:m<M) (h:decide (m=0)=false) (hp:p=a^x%m):p<M:=by
 rw [hp];exact J8 (Js _ (Ai (a:=0) h).2.1) hm
theorem exp_end (h:decide (m=0)=false) (hk:k=0) (hp:p=a^(e / 2^k)%m):p=kV a e m:=by
 unfold kV
 rw [if_neg (of_decide_eq_false h),hp,hk,KC,Nk]
theorem rbit_at (A i:Nat) (x:Int) (hx:x=(i:Int)) (w:Nu) (hi:i<256) :
 Calls prog 121 #[U A,.int .i64 x] w fun e w'=>e=.returned (.bool (xO A i))/\Below w.heap.size w w':=by
 subst hx;exact BG A i w hi
theorem expbit (e i:Nat):(bits .and .u64 (shrW (wd e (i / 64)) (i%64)) 1==1)=xO e i:=by
 rw [<- bit_wd e (i / 64) i rfl]
 unfold shrW
 rw [Kz om,Int.fdiv_eq_ediv_of_nonneg _ (by have:(0:Nat)<2^(i%64):=I4 dC;have e:((2:Int)^(i%64))=((2^(i%64):Nat):Int):=(by simp);omega)]
theorem wrap_down (h:0<k) (h2:k<9223372036854775808):LD.wrap ((k:Int)-1-1)=((k-1:Nat):Int)-1:=by
 rw [KG _ om];omega
theorem wrap_pred (h2:k<9223372036854775808):LD.wrap ((k:Int)-1)=(k:Int)-1:=by
 rw [KG _ om]
def pP:Nat:=115792089237316195423570985008687907853269984665640564039457584007913129603823
def qP:Nat:=57896044618658097711785492504343953926634992332820282019728792003956564801911
theorem Ea:pP<M:=by rw [wZ];unfold pP;decide
theorem qP_lt:qP<M:=by rw [wZ];unfold qP;decide
theorem pP_pos:1<pP:=by unfold pP;decide
theorem expm_p (a e:Nat):kV a e pP=a^e%pP:=by unfold kV;rw [if_neg (by have:=pP_pos;omega)]
def Bc (a:Nat):Bool:=decide (a≠0/\a<pP/\a^qP%pP=1)
theorem memB_zero:Bc 0=false:=by unfold Bc;rw [decide_eq_false_iff_not];exact fun h=>h.1 rfl
theorem mem_no1 (h:decide (a=0)=true):false=Bc a:=by rw [of_decide_eq_true h];exact memB_zero.symm
theorem mem_no2 (h:decide (0<=pF a pP)=true):false=Bc a:=by
 unfold Bc;symm;rw [decide_eq_false_iff_not]
 intro hh
 have h1:=cmpN_neg.2 hh.2.1
 have:=of_decide_eq_true h;omega
theorem mem_no3 (h:decide (pF a pP<0)=false):false=Bc a:=mem_no2 (decide_eq_true (by have:=of_decide_eq_false h;omega))
theorem mem_yes (h0:decide (a=0)=false) (h:pF a pP<0):decide (kV a qP pP=1)=Bc a:=by
 unfold Bc
 rw [decide_eq_decide,expm_p]
 exact ⟨fun e=>⟨of_decide_eq_false h0,cmpN_neg.1 h,e⟩,fun e=>e.2.2⟩
theorem exp_one (a e:Nat):1=a^(e / 2^fJ e)%pP:=by rw [div_lenN,KC,IK pP_pos]
theorem gexp_lt (hp:p=a^x%pP):p<M:=by rw [hp];exact J8 (Js _ (by have:=pP_pos;omega)) Ea
theorem gexp_end (hi:i=fJ e) (hp:p=a^(e / 2^(fJ e-i))%pP):p=kV a e pP:=by
 rw [expm_p,hp,hi,LQ,KC,Nk]
def scB (a:Nat):Bool:=decide (a<qP)
def CZ (x:Nat):Bool:=decide (x≠0/\x<qP)
def oW (x:Nat):Nat:=if CZ x=true then kV 4 x pP else 0
def sQ (x:Nat):Int:=if CZ x=true then 0 else 60
def wH (p:Nat):Bool:=decide (p≠1)&&Bc p
theorem sK:0<M:=by rw [wZ];decide
theorem ifM {c:Prop} [Decidable c] (ha:a<M) (hb:b<M):(if c then a else b)<M:=by split<;>assumption
theorem pubV_lt (x:Nat):oW x<M:=ifM (expmN_lt _ _ Ea) sK
theorem sc_dec (a:Nat):decide (pF a qP<0)=scB a:=by
 unfold scB pF
 by_cases h:a<qP
 ·rw [if_pos h,decide_eq_true h];rfl
 ·rw [if_neg h,decide_eq_false h];split<;>rfl
theorem sec_0 (h:decide (x=0)=true):false=CZ x:=by
 unfold CZ;rw [decide_eq_false];exact fun hh=>hh.1 (of_decide_eq_true h)
theorem sec_1 (h:decide (x=0)=false):scB x=CZ x:=by
 unfold CZ scB
 rw [decide_eq_decide]
 exact ⟨fun hx=>⟨of_decide_eq_false h,hx⟩,fun hx=>hx.2⟩
theorem Gu (h:CZ x=false):oW x=0/\sQ x=60:=by unfold oW sQ;rw [h];exact ⟨rfl,rfl⟩
theorem E5 (h:CZ x=true):oW x=kV 4 x pP/\sQ x=0:=by unfold oW sQ;rw [if_pos h,if_pos h];exact ⟨rfl,rfl⟩
theorem val_0 (h:decide (p=1)=true):false=wH p:=by unfold wH;rw [of_decide_eq_true h];rfl
theorem val_1 (h:decide (p=1)=false):Bc p=wH p:=by
 unfold wH;rw [decide_eq_true (of_decide_eq_false h),MK]
variable {w:Nat}
def fZ (n:Nat):Nat->LU
 | 0=>[]
 | w+1=>fZ n w++[ob ((n / 256^w%256:Nat):Int)]
theorem dX (n w:Nat):(fZ n w).length=w:=by
 induction w with
 | zero=>rfl
 | succ w ih=>simp [fZ,ih]
def AC (n w i:Nat):Array Ns:=(bs (fZ n i++IU (w-i) 0)).toArray
theorem fill_size (h:i<=w):(AC n w i).size=w:=by
 simp [AC,bs,dX]
 omega
theorem fill_set (h:i<w):(AC n w i).setIfInBounds i (.int .u8 ((n / 256^i%256:Nat):Int))=AC n w (i+1):=by
 have hb:bv (ob ((n / 256^i%256:Nat):Int))=.int .u8 ((n / 256^i%256:Nat):Int):=bv_ob ⟨by omega,by omega⟩
 apply Array.ext'
 unfold AC
 simp only [Lp]
 obtain ⟨m,hm⟩:∃ m,w-i=m+1:=⟨w-i-1,by omega⟩
 rw [hm,show w-(i+1)=m by omega,<- hb]
 rw [bs_app,fZ,bs_app,bs_app]
 have hl:(bs (fZ n i)).length=i:=by rw [iI,dX]
 rw [List.set_append_right _ _ om,hl,LQ]
 simp [bs,MG]
def Af (xs:LU) (a:Nat):Nat->Nat
 | 0=>0
 | i+1=>Af xs a i+gB xs (a+i)*256^i
theorem leN_lt (xs:LU) (a w:Nat):Af xs a w<256^w:=by
 induction w with
 | zero=>simp [Af]
 | succ w ih =>
   have:=gV xs (a+w)
   rw [Af,IZ]
   have h1:gB xs (a+w)*256^w<=255*256^w:=Je _ om
   omega
theorem leN_first (xs:LU) (a w:Nat):Af xs a (w+1)=256*Af xs (a+1) w+gB xs a:=by
 induction w with
 | zero=>simp [Af]
 | succ w ih =>
   rw [Af,ih,Af,IZ,show a+(w+1)=a+1+w by omega,Nat.mul_add]
   have:gB xs (a+1+w)*(256^w*256)=256*(gB xs (a+1+w)*256^w):=by rw [IJ (256^w) 256,<- IL,IJ (gB xs (a+1+w)) 256,IL]
   omega
theorem leN_or (xs:LU) (a i:Nat):Af xs a i|||gB xs (a+i)*256^i=Af xs a (i+1):=by
 have h:=leN_lt xs a i
 rw [show (256:Nat)=2^8 from rfl,<- KW] at h
 rw [Af,show (256:Nat)=2^8 from rfl,<- KW,Nat.or_comm,IJ,<- Jr h]
 omega
theorem or_first (v x:Nat) (h:x<256):v*256|||x=v*256+x:=by
 rw [IJ,show (256:Nat)=2^8 from rfl,<- Jr h]
def DX (n:Nat) (a:Int) (w:Nat):Int:=if a<0\/(n:Int)<a then 5 else if (n:Int)-a<(w:Int) then 1 else 0
def Gq (n:Nat) (a:Int) (w:Nat):Int:=if DX n a w=0 then a+w else 0
def yQ (xs:LU) (a:Int) (w:Nat):Nat:=if DX xs.length a w=0 then Af xs a.toNat w else 0
theorem rdE_ok {a:Int} (h:(DX n a w != 0)=false):DX n a w=0/\0<=a/\a+w<=n:=by
 have h0:DX n a w=0:=by simpa using h
 refine ⟨h0,?_⟩
 unfold DX at h0
 split at h0
 ·exact absurd h0 dC
 ·split at h0
  ·exact absurd h0 dC
  ·omega
theorem rdV_lt (xs:LU) (a:Int) (w:Nat):yQ xs a w<256^w:=by
 unfold yQ
 split
 ·exact leN_lt _ _ _
 ·exact I4 dC
theorem rdE5 {a:Int} (h:a<0\/(n:Int)<a):DX n a w=5:=if_pos h
theorem rdE1 {a:Int} (h: ¬ (a<0\/(n:Int)<a)) (h1:(n:Int)-a<(w:Int)):DX n a w=1:=by rw [DX,if_neg h,if_pos h1]
theorem rdE0 {a:Int} (h: ¬ (a<0\/(n:Int)<a)) (h1: ¬ (n:Int)-a<(w:Int)):DX n a w=0:=by rw [DX,if_neg h,if_neg h1]
theorem nB_hL {A:Nat} (h:A<M):nB (hL A)=A:=by
 have h1:=hB_nB (aT A)
 have h2:(bs (hL A)).toArray=hB A:=((DK A).eq (by rw [vY,aT])).symm
 rw [h2] at h1
 have h3:=(byt_inj h (nB_M (aT A))).1 (fun i hi=>by
  have h4:=congrArg (fun z:Array Ns=>z[i]?) h1
  simp only [hB_get _ i hi,JB.injEq,LM.injEq,true_and] at h4
  exact_mod_cast h4)
 exact h3.symm
structure Ky.Ok (k:Ky):Prop where
 s:k.s<M
 p:k.p<M
 c:k.c<M
 i:k.i<4294967296
 n:k.n<4294967296
def Ky.z:Ky:=⟨0,0,0,0,0,0⟩
theorem Ky.z_ok:Ky.z.Ok:=⟨sK,sK,sK,by decide,by decide⟩
def hdB (i:Nat):Bool:=decide (2147483648<=i)
def wB (k:Ky):Bool:=decide (0<=k.d)&&(decide (k.d<=8)&&(wH k.p&&(decide (k.s=0)||(decide (sQ k.s=0)&&decide (oW k.s=k.p)))))
def bN (D j:Nat):Nat:=D / 256^(31-j)%256
theorem byt_bN (D j:Nat):DD D j=((bN D j:Nat):Int):=rfl
theorem EP {k:Ky} (h:wB k=true):0<=k.d/\k.d<=8/\wH k.p=true/\(k.s=0\/(CZ k.s=true/\oW k.s=k.p)):=by
 unfold wB at h
 simp only [Jb,Bool.or_eq_true,decide_eq_true_eq] at h
 refine ⟨h.1,h.2.1,h.2.2.1,h.2.2.2.imp id (fun q=>⟨?_,q.2⟩)⟩
 cases e:CZ k.s
 ·have:=q.1;rw [(Gu e).2] at this;exact absurd this dC
 ·rfl
theorem low_byte (n i:Nat):MN.wrap ((n / 2^(8*i):Nat):Int)=((n / 256^i%256:Nat):Int):=by
 rw [wrapU rfl,show (256:Nat)^i=2^(8*i) by rw [show (256:Nat)=2^8 from rfl,<- KW]]
 rfl
theorem fill_end (h:i=m):fZ n i++IU (m-i) 0=fZ n m:=by
 subst h;simp
theorem H9 (h:i<=m):(fZ n i++IU (m-i) 0).length=m:=by
 rw [II,dX,KO];omega
theorem gB_in {k:Ny} (hk:k.signed=false) (h8:8<=k.bits) (xs:LU) (i:Nat):k.wrap ((gB xs i:Nat):Int)=((gB xs i:Nat):Int) :=
 xA hk (Ja (gV xs i) (IW (n:=2) dC h8))
theorem pow256 (i:Nat):(256:Nat)^i=2^(8*i):=by rw [show (256:Nat)=2^8 from rfl,<- KW]
theorem shl_in {k:Ny} (hx:x<256) (hi:8*(i+1)<=k.bits):x*2^(8*i)<2^k.bits:=by
 have h1:x*2^(8*i)<256*2^(8*i):=JY hx (I4 dC)
 have h2:256*2^(8*i)<=2^k.bits:=by
  rw [show (256:Nat)=2^8 from rfl,<- Jd]
  exact IW dC om
 omega
theorem run_shl8 {t:Nw} {k yk:Ny} (hk:k.signed=false) (xs:LU) (j i:Nat) (hi:8*(i+1)<=k.bits) (w:Nu):(binOp .shl t (.int k ((gB xs j:Nat):Int)) (.int yk ((8*i:Nat):Int))).run P w=.ok (.int k ((gB xs j*256^i:Nat):Int)) w:=by
 rw [pow256]
 exact Ae hk (shl_in (gV xs j) hi) (fun _=>by omega) w
theorem or_leN {k:Ny} (hk:k.signed=false) (xs:LU) (a i:Nat) (hi:8*(i+1)<=k.bits):bits .or k ((Af xs a i:Nat):Int) ((gB xs (a+i)*256^i:Nat):Int)=((Af xs a (i+1):Nat):Int):=by
 have h1:=leN_lt xs a i
 rw [pow256] at h1
 have h2:=shl_in (k:=k) (gV xs (a+i)) hi
 rw [CJ hk (Ja h1 (IW dC om)) (by rw [pow256];exact h2),leN_or]
variable {B xs:LU}
def rdT (k:Ny) (xs:LU) (z:Int) (m:Nat):Ns:=.tuple #[.int k ((yQ xs z m:Nat):Int),.int .i64 (Gq xs.length z m),.int .i64 (DX xs.length z m)]
theorem rdT_err {k:Ny} {z e:Int} (h:DX xs.length z m=e) (he:e≠0):(.tuple #[.int k 0,.int .i64 0,.int .i64 e]:Ns)=rdT k xs z m:=by
 have h0:DX xs.length z m≠0:=by rw [h];exact he
 unfold rdT yQ Gq
 rw [if_neg h0,if_neg h0,h];rfl
theorem rdT_ok {k:Ny} {z:Int} (h:DX xs.length z m=0) (hi:i=m):(.tuple #[.int k ((Af xs z.toNat i:Nat):Int),.int .i64 (z+(m:Int)),.int .i64 0]:Ns)=rdT k xs z m:=by
 subst hi
 unfold rdT yQ Gq
 rw [if_pos h,if_pos h,h]
theorem uI {z:Int} (h:DX n z m=0):0<=z/\z+m<=n:=(rdE_ok (by rw [h];rfl)).2
theorem leN_shl (xs:LU) (a:Nat) (h:k<8):Af xs a k*256<18446744073709551616:=by
 have h1:=leN_lt xs a k
 have h2:256^k*256<=256^8:=by
  rw [<- IZ];exact IW dC h
 have h3:(256:Nat)^8=18446744073709551616:=by decide
 omega
theorem or_num (xs:LU) (a:Nat) (h:k<m) (hm:m<=8):bits .or .u64 ((Af xs (a+(m-k)) k*256:Nat):Int) ((gB xs (a+(m-1-k)):Nat):Int)=((Af xs (a+(m-(k+1))) (k+1):Nat):Int):=by
 have h1:=leN_shl xs (a+(m-k)) (k:=k) om
 have h2:=gV xs (a+(m-1-k))
 rw [CJ rfl h1 (Ja h2 dC),or_first _ _ h2,leN_first,show a+(m-(k+1))+1=a+(m-k) by omega,show a+(m-(k+1))=a+(m-1-k) by omega,IJ]
theorem run_num8 {t:Nw} (xs:LU) (a:Nat) (h:k<8) (w:Nu):(binOp .shl t (.int .u64 ((Af xs a k:Nat):Int)) (.int .u64 8)).run P w=.ok (.int .u64 ((Af xs a k*256:Nat):Int)) w :=
 Ae (k:=.u64) (yk:=.u64) (x:=Af xs a k) (c:=8) rfl (leN_shl xs a h) (fun _=>by decide) w
theorem num_end (h:k=m):Af xs (a+(m-k)) k=Af xs a m:=by subst h;simp
def nU (B:LU) (z:Int):Nat:=if DX B.length z 32=0 then nB ((nT B z.toNat B.length).take 32) else 0
theorem hs_err {z e:Int} (h:DX B.length z 32=e) (he:e≠0):(.tuple #[.agg (hB 0),.int .i64 0,.int .i64 e]:Ns)=.tuple #[.agg (hB (nU B z)),.int .i64 (Gq B.length z 32),.int .i64 (DX B.length z 32)]:=by
 have h0:DX B.length z 32≠0:=by rw [h];exact he
 unfold nU Gq
 rw [if_neg h0,if_neg h0,h]
theorem hs_ok {z:Int} (h:DX B.length z 32=0):(.tuple #[.agg (hB (nB ((nT B z.toNat B.length).take 32))),.int .i64 (z+32),.int .i64 0]:Ns)=.tuple #[.agg (hB (nU B z)),.int .i64 (Gq B.length z 32),.int .i64 (DX B.length z 32)]:=by
 unfold nU Gq
 rw [if_pos h,if_pos h,h];rfl
theorem GI {z:Int}:nU B z<M:=by
 unfold nU
 split
 ·rename_i h
  have:=uI h
  refine nB_M ?_
  rw [KR,oJ _ _ _ (IR _)]
  omega
 ·rw [wZ];decide
theorem gB_leB (h:i<w):gB (fZ n w) i=n / 256^i%256:=by
 induction w with
 | zero=>omega
 | succ w ih =>
   rw [fZ]
   rcases (by omega:i<w\/i=w) with e | e
   ·rw [gB_app_l _ (by rw [dX];exact e)];exact ih e
   ·subst e
    have:=gB_app_r (fZ n i) [ob ((n / 256^i%256:Nat):Int)] 0
    rw [dX,JS] at this
    rw [this]
    exact ob_lt om
theorem leN_at (P Q:LU) (n W:Nat):∀ k,k<=W->Af (P++fZ n W++Q) P.length k=n%256^k
 | 0,_=>by simp [Af,Nat.mod_one]
 | k + 1, h => by
   rw [Af,leN_at P Q n W k om,gB_app_l _ (by rw [II,dX];omega),gB_app_r,gB_leB om,Nat.mod_pow_succ,IJ]
theorem rd_at {A P Q:LU} {z:Nat} (hA:A=P++fZ n w++Q) (hz:z=P.length) (hn:n<256^w):DX A.length (z:Int) w=0/\Gq A.length (z:Int) w=((z+w:Nat):Int)/\yQ A (z:Int) w=n:=by
 have hl:A.length=z+w+Q.length:=by rw [hA,hz,II,II,dX]
 have h0:DX A.length (z:Int) w=0:=rdE0 om om
 refine ⟨h0,?_,?_⟩
 ·rw [Gq,if_pos h0];omega
 ·rw [yQ,if_pos h0,Jm,hz,hA,leN_at P Q n w w (IR _),IK hn]
theorem hL_inj {A B:Nat} (hA:A<M) (hb:B<M) (h:hL A=hL B):A=B:=by
 refine (byt_inj hA hb).1 fun i hi=>?_
 have h1:=congrArg (fun l=>l[i]?) h
 simp only [hL,JI,List.getElem?_range hi,JG,JB.injEq] at h1
 have g:∀ C,0<=DD C i/\DD C i<256:=fun C=>by unfold DD;omega
 have h2:=congrArg (fun x:UInt8=>((x.toNat:Nat):Int)) h1
 simp only [ob_nat (g A),ob_nat (g B)] at h2
 exact h2
theorem nB_hL2 {A:Nat} (hA:A<M):nB (hL A)=A:=hL_inj (nB_M (aT A)) hA (hL_nB (aT A))
theorem hs_at {A P Q:LU} {h z:Nat} (hA:A=P++hL h++Q) (hz:z=P.length) (hh:h<M):nU A (z:Int)=h/\Gq A.length (z:Int) 32=((z+32:Nat):Int)/\DX A.length (z:Int) 32=0:=by
 have hl:A.length=z+32+Q.length:=by rw [hA,hz,II,II,aT]
 have h0:DX A.length (z:Int) 32=0:=rdE0 om om
 refine ⟨?_,?_,h0⟩
 ·rw [nU, if_pos h0, Jm]
  have e:(nT A z A.length).take 32=hL h:=by
   unfold nT
   rw [J9,hA,hz,I8,List.drop_left,List.take_append_of_le_length (by rw [aT];omega),I9 (by rw [aT];omega)]
  rw [e,nB_hL2 hh]
 ·rw [Gq,if_pos h0];omega
variable {k:Ky}
def mV (d:Int):Int:=MN.wrap d
theorem dpI_rng (d:Int):0<=mV d/\mV d<256:=by
 unfold mV MW
 simp [Np,IntKind.bits]
 omega
def flg (s:Nat):Int:=if s=0 then 0 else 1
def lst (k:Ky):Nat:=if k.s=0 then k.p else k.s
def uG (k:Ky):LU:=((([ob (flg k.s),ob (mV k.d)]++fZ k.i 4)++fZ k.n 4)++hL k.c)++hL (lst k)
theorem zQ (k:Ky):(uG k).length=74:=by simp [uG,dX,aT]
theorem en_0 (h:decide (k.s=0)=true):((([ob 0,ob (mV k.d)]++fZ k.i 4)++fZ k.n 4)++hL k.c)++hL k.p=uG k:=by
 unfold uG flg lst;rw [if_pos (of_decide_eq_true h),if_pos (of_decide_eq_true h)]
theorem en_1 (h:decide (k.s=0)=false):((([ob 1,ob (mV k.d)]++fZ k.i 4)++fZ k.n 4)++hL k.c)++hL k.s=uG k:=by
 unfold uG flg lst;rw [if_neg (of_decide_eq_false h),if_neg (of_decide_eq_false h)]
def Ba (B:LU):Int :=
 if B.length≠74 then 8 else if 1<gB B 0\/8<gB B 1 then 5 else if gB B 0=0 then (if wH (nU B 42)=true then 0 else 60) else sQ (nU B 42)
def iP (B:LU):Ky :=
 if Ba B=0 then ⟨if gB B 0=0 then 0 else nU B 42,if gB B 0=0 then nU B 42 else oW (nU B 42),nU B 10,((gB B 1:Nat):Int),yQ B 2 4,yQ B 6 4⟩ else Ky.z
theorem kdK_ok (B:LU):(iP B).Ok:=by
 unfold iP
 split
 ·exact ⟨ifM sK GI,ifM GI (pubV_lt _),GI,rdV_lt B 2 4,rdV_lt B 6 4⟩
 ·exact Ky.z_ok
theorem dc_8 (h:B.length≠74):Ba B=8/\iP B=Ky.z:=by
 have e:Ba B=8:=by unfold Ba;rw [if_pos h]
 exact ⟨e,by unfold iP;rw [e];rfl⟩
theorem dc_5 (h:B.length=74) (h1:1<gB B 0\/8<gB B 1):Ba B=5/\iP B=Ky.z:=by
 have e:Ba B=5:=by unfold Ba;rw [if_neg om,if_pos h1]
 exact ⟨e,by unfold iP;rw [e];rfl⟩
theorem dc_v0 (h:B.length=74) (h1: ¬ (1<gB B 0\/8<gB B 1)) (h2:gB B 0=0) (hv:wH (nU B 42)=false):Ba B=60/\iP B=Ky.z:=by
 have e:Ba B=60:=by unfold Ba;rw [if_neg om,if_neg h1,if_pos h2,hv];rfl
 exact ⟨e,by unfold iP;rw [e];rfl⟩
theorem dc_v1 (h:B.length=74) (h1: ¬ (1<gB B 0\/8<gB B 1)) (h2:gB B 0=0) (hv:wH (nU B 42)=true):Ba B=0/\iP B=⟨0,nU B 42,nU B 10,((gB B 1:Nat):Int),yQ B 2 4,yQ B 6 4⟩:=by
 have e:Ba B=0:=by unfold Ba;rw [if_neg om,if_neg h1,if_pos h2,hv];rfl
 exact ⟨e,by unfold iP;rw [if_pos e,if_pos h2,if_pos h2]⟩
theorem dc_s0 (h:B.length=74) (h1: ¬ (1<gB B 0\/8<gB B 1)) (h2:gB B 0≠0) (hv:sQ (nU B 42)≠0):Ba B=sQ (nU B 42)/\Ba B=60/\iP B=Ky.z:=by
 have e:Ba B=sQ (nU B 42):=by unfold Ba;rw [if_neg om,if_neg h1,if_neg h2]
 have h6:sQ (nU B 42)=60:=by
  cases es:CZ (nU B 42)
  ·exact (Gu es).2
  ·exact absurd (E5 es).2 hv
 exact ⟨e,e.trans h6,by unfold iP;rw [if_neg (by rw [e];exact hv)]⟩
theorem dc_s1 (h:B.length=74) (h1: ¬ (1<gB B 0\/8<gB B 1)) (h2:gB B 0≠0) (hv:sQ (nU B 42)=0):Ba B=0/\iP B=⟨nU B 42,oW (nU B 42),nU B 10,((gB B 1:Nat):Int),yQ B 2 4,yQ B 6 4⟩:=by
 have e:Ba B=0:=by unfold Ba;rw [if_neg om,if_neg h1,if_neg h2,hv]
 exact ⟨e,by unfold iP;rw [if_pos e,if_neg h2,if_neg h2]⟩
theorem en_back (hk:k.Ok) (h:wB k=true) (hs:k.s=0):Ba (uG k)=0/\iP (uG k)=k:=by
 obtain ⟨g0,g8,gv,_⟩:=EP h
 have hl:lst k=k.p:=by unfold lst;rw [if_pos hs]
 have hf:flg k.s=0:=by unfold flg;rw [if_pos hs]
 have hd:mV k.d=k.d:=by
  unfold mV MW
  simp [Np,IntKind.bits]
  omega
 have hB0:gB (uG k) 0=0:=by show (ob (flg k.s)).toNat=0;rw [hf];rfl
 have hB1:((gB (uG k) 1:Nat):Int)=k.d:=by
  show (((ob (mV k.d)).toNat:Nat):Int)=k.d
  rw [hd];exact ob_nat ⟨g0,by omega⟩
 have hi:=(rd_at (A:=uG k) (P:=[ob (flg k.s),ob (mV k.d)]) (Q:=fZ k.n 4++(hL k.c++hL (lst k))) (n:=k.i) (w:=4) (z:=2) (by unfold uG;simp only [I8]) rfl hk.i).2.2
 have hn:=(rd_at (A:=uG k) (P:=[ob (flg k.s),ob (mV k.d)]++fZ k.i 4) (Q:=hL k.c++hL (lst k)) (n:=k.n) (w:=4) (z:=6) (by unfold uG;simp only [I8]) (by simp [dX]) hk.n).2.2
 have hc:=(hs_at (A:=uG k) (P:=([ob (flg k.s),ob (mV k.d)]++fZ k.i 4)++fZ k.n 4) (Q:=hL (lst k)) (h:=k.c) (z:=10) rfl (by simp [dX]) hk.c).1
 have hp:=(hs_at (A:=uG k) (P:=(([ob (flg k.s),ob (mV k.d)]++fZ k.i 4)++fZ k.n 4)++hL k.c) (Q:=[]) (h:=k.p) (z:=42) (by unfold uG;rw [hl,Ld]) (by simp [dX,aT]) hk.p).1
 have hi:yQ (uG k) 2 4=k.i:=hi
 have hn:yQ (uG k) 6 4=k.n:=hn
 have hc:nU (uG k) 10=k.c:=hc
 have hp:nU (uG k) 42=k.p:=hp
 have h1: ¬ (1<gB (uG k) 0\/8<gB (uG k) 1):=by omega
 have hh:=dc_v1 (zQ k) h1 hB0 (by rw [hp];exact gv)
 refine ⟨hh.1,hh.2.trans ?_⟩
 rw [hi,hn,hc,hp,hB1,<- hs]
variable {c:Nat} {X:LU}
theorem bits_xorU {k:Ny} (hk:k.signed=false) (ha:a<2^k.bits) (hb:b<2^k.bits):bits .xor k (a:Int) (b:Int)=((a^^^b:Nat):Int):=by
 have e:∀ n:Nat,n<2^k.bits->(BitVec.ofInt k.bits (n:Int)).toNat=n:=by
  intro n hn
  rw [BitVec.toNat_ofInt]
  rw [show ((2^k.bits:Nat):Int)=((2^k.bits:Nat):Int) from rfl,<- Int.natCast_emod,Jm,IK hn]
 unfold bits
 simp only []
 rw [Na,e a ha,e b hb,xA hk (Nat.xor_lt_two_pow ha hb)]
theorem vC (ha:a<4294967296) (hb:b<4294967296):bits .xor .u32 (a:Int) (b:Int)=((a^^^b:Nat):Int):=bits_xorU rfl ha hb
theorem FD (ha:a<4294967296) (hb:b<4294967296):bits .and .u32 (a:Int) (b:Int)=((a&&&b:Nat):Int):=bits_andU rfl ha hb
theorem not_xor32 (ha:a<4294967296):bits .xor .u32 4294967295 (a:Int)=((kW a:Nat):Int):=by
 refine (bits_xorU (k:=.u32) rfl (a:=4294967295) (b:=a) dC ha).trans ?_
 congr 1
 unfold kW
 have h:(4294967295-KH 32 a).toNat=(KH 32 a^^^4294967295).toNat:=by
  have h2:KH 32 a^^^4294967295= ~~~ (KH 32 a):=by
   rw [show (4294967295:BitVec 32)=BitVec.allOnes 32 from rfl,BitVec.xor_allOnes]
  rw [h2,BitVec.toNat_not,Nb]
  have h3:(KH 32 a).toNat=a:=by simp [IK ha]
  rw [h3]
  show (2^32-a+4294967295)%2^32=2^32-1-a
  omega
 have h3:(KH 32 a).toNat=a:=by simp [IK ha]
 rw [Na,Nb,h3] at h
 have h4:(4294967295:BitVec 32).toNat=4294967295:=rfl
 rw [h4] at h
 rw [Nat.xor_comm,<- h]
 show (2^32-a+4294967295)%2^32=4294967295-a
 omega
theorem dG (x y:Nat):J6.wrap ((x:Int)+(y:Int))=((bJ x y:Nat):Int):=by
 rw [<- Int.natCast_add];exact u32M (x+y)
theorem u64_neg (h0:0<n) (h:n<32):I7.wrap (0-(n:Int))=((18446744073709551616-n:Nat):Int):=by
 simp only [MW]
 show (0-(n:Int))%18446744073709551616=_
 omega
theorem and31 (h0:0<n) (h:n<32):bits .and .u64 ((18446744073709551616-n:Nat):Int) 31=((32-n:Nat):Int):=by
 refine (bits_andU (k:=.u64) rfl (a:=18446744073709551616-n) (b:=31) (by show _<18446744073709551616;omega) dC).trans ?_
 congr 1
 rw [show (31:Nat)=2^5-1 from rfl,KT]
 omega
theorem u64_32 (h0:0<n) (h:n<32):I7.wrap (32-((32-n:Nat):Int))=((n:Nat):Int):=by
 rw [show (32:Int)-((32-n:Nat):Int)=((n:Nat):Int) by omega]
 exact u64N om
theorem run_shlM {t:Nw} {yk:Ny} (hc:c<=32) (w:Nu):(binOp .shl t (.int .u32 (x:Int)) (.int yk (c:Int))).run P w=.ok (.int .u32 ((x*2^c%4294967296:Nat):Int)) w:=by
 have e:J6.wrap ((x:Int)*2^(min (c:Int).toNat J6.bits))=((x*2^c%4294967296:Nat):Int):=by
  rw [Jm,Kz (show c<=J6.bits from hc),show (x:Int)*2^c=((x*2^c:Nat):Int) by simp]
  exact u32M _
 simp only [binOp,Op.shift,if_neg (by omega: ¬ (c:Int)<0),e]
 rfl
theorem or_rot (hx:x<4294967296):bits .or .u32 ((x*2^(32-n)%4294967296:Nat):Int) ((x / 2^n:Nat):Int)=((aP x n:Nat):Int) :=
 CJ (k:=.u32) rfl (Js _ dC) (BQ n hx)
def Il (X:LU) (i:Nat):Nat->Nat
 | 0=>0
 | j+1=>Il X i j*256+gB X (4*i+j)
theorem pwb_lt (X:LU) (i:Nat):∀ j,Il X i j<256^j
 | 0=>by simp [Il]
 | j+1=>by have:=pwb_lt X i j;have:=gV X (4*i+j);rw [Il,IZ];omega
theorem pwb_small (h:j<4):Il X i j<16777216 :=
 Ja (pwb_lt X i j) (by rw [show (16777216:Nat)=256^3 from rfl];exact IW dC om)
theorem pwb_word (X:LU) (i:Nat):Il X i 4=word X i:=by simp [Il,word]
theorem run_pw8 {t:Nw} (h:j<4) (w:Nu):(binOp .shl t (.int .u32 ((Il X i j:Nat):Int)) (.int .u64 8)).run P w=.ok (.int .u32 ((Il X i j*256:Nat):Int)) w :=
 Ae (k:=.u32) (yk:=.u64) (x:=Il X i j) (c:=8) rfl (by have:=pwb_small (X:=X) (i:=i) h;show Il X i j*256<4294967296;omega) (fun _=>by decide) w
theorem or_pw (h:j<4):bits .or .u32 ((Il X i j*256:Nat):Int) ((gB X (4*i+j):Nat):Int)=((Il X i (j+1):Nat):Int):=by
 have h1:=pwb_small (X:=X) (i:=i) h
 have h2:=gV X (4*i+j)
 rw [CJ (k:=.u32) rfl (by show _<4294967296;omega) (by show _<4294967296;omega)]
 congr 1
 rw [IJ,show (256:Nat)=2^8 from rfl,<- Jr h2,Il,IJ]
theorem or_gen {y k:Nat} (h:y<2^k) (hx:x*2^k<4294967296) (hy:y<4294967296):bits .or .u32 ((x*2^k:Nat):Int) ((y:Nat):Int)=((x*2^k+y:Nat):Int):=by
 rw [CJ (k:=.u32) rfl hx hy]
 congr 1
 rw [IJ,<- Jr h]
theorem or_w1 (ha:a<256) (hb:b<256):bits .or .u32 ((a*16777216:Nat):Int) ((b*65536:Nat):Int)=(((a*256+b)*65536:Nat):Int) :=
 (or_gen (x:=a) (y:=b*65536) (k:=24) (by show _<16777216;omega) (by show a*16777216<_;omega) om).trans (congrArg Nat.cast (show a*16777216+b*65536=_ by omega))
theorem or_w2 (ha:a<256) (hb:b<256) (hc:c<256):bits .or .u32 (((a*256+b)*65536:Nat):Int) ((c*256:Nat):Int)=((((a*256+b)*256+c)*256:Nat):Int) :=
 (or_gen (x:=a*256+b) (y:=c*256) (k:=16) (by show _<65536;omega) (by show (a*256+b)*65536<_;omega) om).trans (congrArg Nat.cast (show (a*256+b)*65536+c*256=_ by omega))
theorem or_w3:bits .or .u32 ((((gB X (4*i)*256+gB X (4*i+1))*256+gB X (4*i+2))*256:Nat):Int) ((gB X (4*i+3):Nat):Int)=((word X i:Nat):Int):=by
 have h0:=gV X (4*i);have h1:=gV X (4*i+1);have h2:=gV X (4*i+2);have h3:=gV X (4*i+3)
 exact or_gen (x:=(gB X (4*i)*256+gB X (4*i+1))*256+gB X (4*i+2)) (y:=gB X (4*i+3)) (k:=8) h3 (by show _*256<_;omega) om
def sc (X:LU) (i j m:Nat):Nat:=if m<i then word X m else if m=i then Il X i j else 0
def tc (X:LU) (i m:Nat):Nat:=if m<i then wN X m else 0
theorem sc_zero (X:LU) (m:Nat):sc X 0 0 m=0:=by unfold sc;rw [if_neg om];split<;>rfl
theorem sc_at (X:LU) (i j:Nat):sc X i j i=Il X i j:=by unfold sc;rw [if_neg om,if_pos rfl]
theorem sc_set:(gY .u32 64 (sc X i j)).setIfInBounds i (.int .u32 ((Il X i (j+1):Nat):Int))=gY .u32 64 (sc X i (j+1)):=by
 rw [GR]
 refine rE fun m _=>?_
 by_cases e:m=i
 ·rw [if_pos e,e,sc_at]
 ·rw [if_neg e];unfold sc;rw [if_neg e,if_neg e]
theorem sc_next (X:LU) (i:Nat):gY .u32 64 (sc X i 4)=gY .u32 64 (sc X (i+1) 0):=by
 refine rE fun m _=>?_
 unfold sc
 by_cases h1:m<i
 ·rw [if_pos h1,if_pos om]
 ·rw [if_neg h1]
  by_cases h2:m=i
  ·rw [if_pos h2,if_pos om,h2,pwb_word]
  ·rw [if_neg h2, if_neg om]
   split<;>rfl
theorem sc_tc (X:LU):gY .u32 64 (sc X 16 0)=gY .u32 64 (tc X 16):=by
 refine rE fun m _=>?_
 unfold sc tc
 by_cases h1:m<16
 ·rw [if_pos h1,if_pos h1,wN_word h1]
 ·rw [if_neg h1,if_neg h1];split<;>rfl
theorem sc_word:(gY .u32 64 (sc X i 0)).setIfInBounds i (.int .u32 ((word X i:Nat):Int))=gY .u32 64 (sc X (i+1) 0):=by
 rw [GR]
 refine rE fun m _=>?_
 unfold sc
 by_cases e:m=i
 ·rw [if_pos e,if_pos om,e]
 ·rw [if_neg e, if_neg e]
  by_cases h1:m<i
  ·rw [if_pos h1,if_pos om]
  ·rw [if_neg h1,if_neg om];split<;>rfl
theorem vN (h:m<i) (h64:m<64):(gY .u32 64 (tc X i))[m]? = some (.int .u32 ((wN X m:Nat):Int)):=by
 rw [AL h64,tc,if_pos h]
theorem tc_set {v:Nat} (hv:v=wN X i):(gY .u32 64 (tc X i)).setIfInBounds i (.int .u32 ((v:Nat):Int))=gY .u32 64 (tc X (i+1)):=by
 rw [GR]
 refine rE fun m _=>?_
 unfold tc
 by_cases e:m=i
 ·rw [if_pos e,if_pos om,e,hv]
 ·rw [if_neg e]
  by_cases h1:m<i
  ·rw [if_pos h1,if_pos om]
  ·rw [if_neg h1,if_neg om]
theorem tc_end (h:64<=i):gY .u32 64 (tc X i)=gY .u32 64 (wN X):=by
 refine rE fun m hm=>?_
 rw [tc,if_pos om]
theorem kC_get (h:i<64):(gY .u32 64 kN)[i]? = some (.int .u32 ((kN i:Nat):Int)):=AL h
theorem cmp_end {d f h a' b' c' d' e' f' g' h':Nat} (hr:rnds X (a,b,c,d,e,f,g,h) i=(a',b',c',d',e',f',g',h')) (hi:i=64) :
 oQ (a,b,c,d,e,f,g,h) X=(bJ a a',bJ b b',bJ c c',bJ d d',bJ e e',bJ f f',bJ g g',bJ h h'):=by
 subst hi
 rw [oQ,hr];rfl
theorem mid_take {m:LU} (n:Nat) (_h:a+n<=m.length):(nT m a m.length).take n=nT m a (a+n):=by
 unfold nT
 rw [J9,List.take_drop,JQ]
theorem bne0N (h:((x:Int) != 0)=true):x≠0:=bneN (k:=0) h
theorem bne0N' (h:((x:Int) != 0)=false):x=0:=bneN' (k:=0) h
theorem yN (hX:X=128::IU j 0):X.length=j+1:=by rw [hX];simp
theorem pad_hd0 (n:Nat):Hd ((zB (9+fG n)).setIfInBounds 0 (.int .u8 128)) (128::IU (fG n) 0):=by
 unfold Hd zB
 simp only [Lp]
 rw [show 9+fG n=(fG n+8)+1 by omega,MG]
 show (((bv 0::bs (IU (fG n+8) 0)).set 0 (.int .u8 128)).take (IU (fG n) (0:UInt8)).length.succ)=_
 rw [List.set_cons_zero,List.take_succ_cons,KO]
 show _=bv 128::bs (IU (fG n) 0)
 congr 1
 unfold bs
 rw [MO,MO,List.take_replicate,Kz om]
theorem pad_next (hX:X=128::(IU (fG n) 0++be8 (8*n) i)):X++[ob ((8*n / 2^(56-8*i)%256:Nat):Int)]=128::(IU (fG n) 0++be8 (8*n) (i+1)):=by
 rw [hX,be8_succ];simp
theorem pad_end (hX:X=128::(IU (fG n) 0++be8 (8*n) i)) (hi:i=8):X=dE n:=by
 subst hi;exact hX
theorem iZ (hX:X=128::(IU (fG n) 0++be8 (8*n) i)):X.length=1+fG n+i:=by
 rw [hX];simp [be8_length];omega
theorem zer_next (hX:X=128::IU j 0):X++[0]=128::IU (j+1) 0:=by
 rw [hX,List.replicate_succ'];rfl
theorem G8 (hj:j<=fG n) (h:(n+(j+1)+8)%64≠0):j<fG n:=by
 unfold fG at *;omega
theorem zer_end (hj:j<=fG n) (h:(n+(j+1)+8)%64=0):j=fG n:=by
 unfold fG at *;omega
theorem zer_be (hX:X=128::IU j 0) (hj:j=fG n):X=128::(IU (fG n) 0++be8 (8*n) 0):=by
 rw [hX,hj];simp [be8]
def GM (s:xX) (m j:Nat):Nat:=if j<m then tX s (j / 4) / 2^(24-j%4*8)%256 else 0
theorem hB0_row (s:xX):hB 0=gY .u8 32 (GM s 0):=by
 have h:gY .u8 32 (GM s 0)=gY .u8 32 (fun _=>0):=rE fun m _=>by unfold GM;rw [if_neg om]
 exact (show hB 0=gY .u8 32 (fun _=>0) by kernel_rfl).trans h.symm
theorem Ht {s:xX} {v:Nat} (hv:v=tX s (m / 4) / 2^(24-m%4*8)%256):(gY .u8 32 (GM s m)).setIfInBounds m (.int .u8 ((v:Nat):Int))=gY .u8 32 (GM s (m+1)):=by
 rw [GR]
 refine rE fun j _=>?_
 unfold GM
 by_cases e:j=m
 ·rw [if_pos e,if_pos om,e,hv]
 ·rw [if_neg e]
  by_cases h1:j<m
  ·rw [if_pos h1,if_pos om]
  ·rw [if_neg h1,if_neg om]
theorem dgf_end {s:xX} (h:32<=m):gY .u8 32 (GM s m)=hB (nB (digL s)):=by
 rw [<- rowK_bytes]
 refine rE fun j hj=>?_
 rw [GM,if_pos om]
theorem sha_next {m:LU} {s:xX} (hS:shaS m i=s) (h:64*i+64<=m.length):shaS m (i+1)=oQ s ((nT m (64*i) m.length).take 64):=by
 rw [shaS,hS,mid_take 64 h]
theorem sha_end {b:LU} {s:xX} (hS:shaS (b++dE b.length) i=s) (hi:i=(b++dE b.length).length / 64):nB (digL s)=iO b:=by
 subst hi;rw [<- hS];rfl
theorem dF (b:LU):(b++dE b.length).length=b.length+fG b.length+9:=by rw [II,Gx];omega
theorem copy_arr (hC:C.size=n) (h:n<=xs.length):lK C 0 (bs (xs.take n))=(bs (xs.take n)).toArray:=by
 unfold lK
 have hl:(bs (xs.take n)).length=n:=by rw [iI,KR];omega
 rw [List.take_zero,List.nil_append,hl,JR,KI (by rw [Jy];omega),Ld]
theorem idx_arr8 {t el:Nw} (hu:P.underlying t=some (.array 8 el)) (he:P.underlying el=some (.int .u32)) (hs:∀ w,(sizeOf el).run P w=.ok 1 w) {d f h:Nat} (hj:j<8) (w:Nu) :
 (do pure (Jc (<- Instr.index t (.agg #[LM .u32 ((a:Nat):Int),.int .u32 ((b:Nat):Int),.int .u32 ((c:Nat):Int),.int .u32 ((d:Nat):Int),.int .u32 ((e:Nat):Int),.int .u32 ((f:Nat):Int),.int .u32 ((g:Nat):Int),.int .u32 ((h:Nat):Int)]) (.int .i64 ((j:Nat):Int)))):Sem Next).run P w=.ok (.value (.int .u32 ((tX (a,b,c,d,e,f,g,h) j:Nat):Int))) w:=by
 have hp:=CV (P:=P) he _ j _ (sel_get (a:=a) (b:=b) (c:=c) (d:=d) (e:=e) (f:=f) (g:=g) (h:=h) hj) w
 have hc:(0:Int)<=(j:Int)/\(j:Int)<((8:Nat):Int):=by omega
 simp only [Instr.index,asIntOf,KJ,KL,JJ,run_underlying hu,if_pos hc,hs,Jm,Nat.mul_one,hp]
abbrev FM (w:Nu):Prop:=Kb w 1 (gY .u32 64 kN)
abbrev F9 (w:Nu):Prop:=Kb w 0 #[.int .u32 1779033703,.int .u32 3144134277,.int .u32 1013904242,.int .u32 2773480762,.int .u32 1359893119,.int .u32 2600822924,.int .u32 528734635,.int .u32 1541459225]
theorem snd_end1 (h1:decide (k.d<0)=true):false=wB k:=by
 have:=of_decide_eq_true h1
 unfold wB
 rw [decide_eq_false (show ¬ 0<=k.d by omega)];rfl
theorem snd_end2 (_:decide (k.d<0)=false) (h2:decide (8<k.d)=true):false=wB k:=by
 have:=of_decide_eq_true h2
 unfold wB
 rw [decide_eq_false (show ¬ k.d<=8 by omega),JM,IV]
theorem snd_end3 (_:decide (k.d<0)=false) (_:decide (8<k.d)=false) (h3:wH k.p=false):false=wB k:=by
 unfold wB
 rw [h3,JM,IV,IV]
theorem snd_mid (h1:decide (k.d<0)=false) (h2:decide (8<k.d)=false) (h3:wH k.p=true):wB k=(decide (k.s=0)||(decide (sQ k.s=0)&&decide (oW k.s=k.p))):=by
 have:=of_decide_eq_false h1
 have:=of_decide_eq_false h2
 unfold wB
 rw [decide_eq_true (show 0<=k.d by omega),decide_eq_true (show k.d<=8 by omega),h3];rfl
theorem snd_ok4 (h1:decide (k.d<0)=false) (h2:decide (8<k.d)=false) (h3:wH k.p=true) (h4:decide (k.s=0)=true):true=wB k:=by
 rw [snd_mid h1 h2 h3,h4];rfl
theorem snd_ok5 (h1:decide (k.d<0)=false) (h2:decide (8<k.d)=false) (h3:wH k.p=true) (h4:decide (k.s=0)=false) (h5:(sQ k.s==0)=true):decide (oW k.s=k.p)=wB k:=by
 have h:sQ k.s=0:=by simpa using h5
 rw [snd_mid h1 h2 h3,h4,decide_eq_true h];rfl
theorem snd_end5 (h1:decide (k.d<0)=false) (h2:decide (8<k.d)=false) (h3:wH k.p=true) (h4:decide (k.s=0)=false) (h5:(sQ k.s==0)=false):false=wB k:=by
 have h: ¬ sQ k.s=0:=by simpa using h5
 rw [snd_mid h1 h2 h3,h4,decide_eq_false h];rfl
variable {ps:List Nat}
theorem F6 {x:Int} (h:(x==y)=true):x=y:=by simpa using h
theorem rJ {x:Int} (h:(x==y)=false):x≠y:=by simpa using h
def nI (ps:List Nat):List Int:=ps.map fun n=>((n:Nat):Int)
theorem y9 (ps:List Nat):(nI ps).length=ps.length:=Le _
theorem FZ (ps:List Nat) (j:Nat):gI (nI ps) j=((ps.getD j 0:Nat):Int):=by
 unfold gI nI
 rw [Jh,Jh,JI]
 cases ps[j]? <;> rfl
theorem GN (h:j<ps.length):ps.drop j=ps.getD j 0::ps.drop (j+1):=by
 rw [Lu h,Jh,IX h];rfl
variable {k:Nat} {T:Nat->Prop}
section
theorem neqH (A B:Nat) (h1:A<M) (h2:B<M) (w:Nu):(binOp .neq 47 (.agg (hB A)) (.agg (hB B))).run prog w=.ok (.bool (!decide (A=B))) w:=by
 rw [GV underlying47 underlying5 rfl (DD A) (DD B) _ _ (hB_get A) (hB_get B) w]
 rw [decide_eq_decide.2 (byt_inj h1 h2)]
def vV (s p c:Nat) (d i n:Int) (x y:Ns):Array Ns:=cU s++cU p++hB c++ #[.int .i64 d,.int .u32 i,.int .u32 n,x,y]
def kJ (kd m nu:Int) (h:Nat) (x:Ns):Array Ns:= #[.int .i64 kd,.int .i64 m,.int .u32 nu]++hB h++ #[x]
def dB.row (p:dB):Array Ns:=vV p.k.s p.k.p p.k.c p.k.d ((p.k.i:Nat):Int) ((p.k.n:Nat):Int) (.slice p.pa (nI p.ps).length p.pc) (.bool p.wd)
def aX.row (t:aX):Array Ns:=kJ t.kd t.m ((t.nu:Nat):Int) t.h (.slice t.ka t.ks.length t.kc)
theorem dB.lQ (p:dB):p.row.toList.length=45:=by simp [dB.row,vV,vY]
theorem aX.lQ (t:aX):t.row.toList.length=36:=by simp [aX.row,kJ,vY]
def GK (z:Int):Prop:= -9223372036854775808<=z/\z<9223372036854775808
theorem qE {z:Int} (h: -9223372036854775808<=z/\z<9223372036854775808):GK z:=h
theorem rng_nat {n:Nat} (h:n<1000000):GK ((n:Nat):Int):=by unfold GK;omega
structure dB.Ok (p:dB):Prop where
 k:p.k.Ok
 d:GK p.k.d
 ps:∀ i∈p.ps,i<4294967296
structure aX.Ok (t:aX):Prop where
 kd:GK t.kd
 m:GK t.m
 nu:t.nu<4294967296
 h:t.h<M
theorem dB.ok_d:(default:dB).Ok:=⟨Ky.z_ok,by unfold GK;exact ⟨by decide,by decide⟩,fun i hi=>absurd hi (by simp [default,instInhabitedKpA])⟩
theorem aX.ok_d:(default:aX).Ok:=⟨by unfold GK;exact ⟨by decide,by decide⟩,by unfold GK;exact ⟨by decide,by decide⟩,by decide,sK⟩
def gK (l:List dB) (i:Nat):dB:=l.getD i default
def gT (l:List aX) (i:Nat):aX:=l.getD i default
theorem getD_mem {α:Type} [Inhabited α] {l:List α} (h:i<l.length):l.getD i default∈l:=by grind
theorem mO {l:List dB} (h:i<l.length):gK l i∈l:=getD_mem h
theorem fH {l:List aX} (h:i<l.length):gT l i∈l:=getD_mem h
def qZ (ts:List aX):Prop:=∀ t∈ts,t.Ok/\∀ p∈t.ks,p.Ok
def KsOk (ks:List dB):Prop:=∀ p∈ks,p.Ok
theorem EE {α:Type} [Inhabited α] {q:α->Prop} {l:List α} (h:∀ x∈l,q x) (h0:q default) (i:Nat):q (l.getD i default):=by grind
theorem KsOk.gK1 {ks:List dB} (h:KsOk ks) (j:Nat):(gK ks j).Ok:=EE h dB.ok_d j
theorem qZ.gT {ts:List aX} (h:qZ ts) (i:Nat):(gT ts i).Ok:=(EE (q:=fun t:aX=>t.Ok/\∀ p∈t.ks,p.Ok) h ⟨aX.ok_d,fun p hp=>absurd hp (by simp [default,instInhabitedTmA])⟩ i).1
theorem qZ.gK {ts:List aX} (h:qZ ts) (i j:Nat):(gK (Go.Proofs.YtegagmoldjiaaaaGreatDoor.gT ts i).ks j).Ok:=KsOk.gK1 (EE (q:=fun t:aX=>t.Ok/\∀ p∈t.ks,p.Ok) h ⟨aX.ok_d,fun p hp=>absurd hp (by simp [default,instInhabitedTmA])⟩ i).2 j
section
variable {α:Type} {f:α→List Ns} {n:Nat}
theorem fm_len (hf:∀ x,(f x).length=n):∀ l:List α,(l.flatMap f).length=l.length*n
 | []=>by simp
 | x :: r => by
   rw [JZ,II,hf,fm_len hf r,JO,Jg,J5,JQ]
theorem fm_get (hf:∀ x,(f x).length=n) [Inhabited α]:∀ (l:List α) (i j:Nat),i<l.length->j<n->(l.flatMap f)[i*n+j]? = (f (l.getD i default))[j]?
 | x :: r, 0, j, _, hj => by grind
 | x :: r, i + 1, j, h, hj => by
   rw [JZ,List.getElem?_append_right (by grind),hf,show (i+1)*n+j-n=i*n+j by grind,fm_get hf r i j (by grind) hj]
   rfl
end
structure wX (w:Nu) (a:OA) (c:Nat) (l:List dB):Prop where
 le:l.length<=c
 max:l.length<=1000000
 rows:Rs w a (l.flatMap fun p=>p.row.toList)
 sub:∀ p∈l,Is w .u32 p.pa p.pc (nI p.ps)
 ok:∀ p∈l,p.Ok
structure iF (w:Nu) (a:OA) (c:Nat) (l:List aX):Prop where
 le:l.length<=c
 max:l.length<=1000000
 rows:Rs w a (l.flatMap fun t=>t.row.toList)
 sub:∀ t∈l,wX w t.ka t.kc t.ks
 ok:∀ t∈l,t.Ok
theorem iF.oks {w:Nu} {a:OA} {c:Nat} {l:List aX} (h:iF w a c l):qZ l:=fun t ht=>⟨h.ok t ht,(h.sub t ht).ok⟩
theorem qZ.klen {ts:List aX} (_:qZ ts) {w:Nu} {a:OA} {c:Nat} (h:iF w a c ts) (i:Nat):(Go.Proofs.YtegagmoldjiaaaaGreatDoor.gT ts i).ks.length<=1000000 :=
 EE (fun t ht=>(h.sub t ht).max) dC i
theorem wX.nil {w:Nu} {a:OA} {c:Nat}:wX w a c []:=⟨by simp,by simp,Ju rfl,by simp,by simp⟩
theorem iF.nil {w:Nu} {a:OA} {c:Nat}:iF w a c []:=⟨by simp,by simp,Ju rfl,by simp,by simp⟩
theorem GU {α:Type} {F:α->Nu->Prop} {w:Nu}:∀ {l:List α},(∀ x∈l,bZ T (F x) w)->bZ T (fun w=>∀ x∈l,F x w) w
 | [],_=>dL (fun _ x hx=>absurd hx (by simp))
 | x :: r, h => ((h x Ji).and (GU (fun y hy => h y (Jj _ hy)))).mono (fun _ hh y hy => by grind)
theorem wX.mkP {w:Nu} {a:OA} {c:Nat} {l:List dB} (hle:l.length<=c) (hmax:l.length<=1000000) (hr:bZ T (fun w=>Rs w a (l.flatMap fun p=>p.row.toList)) w) (hs:∀ p∈l,bZ T (fun w=>Is w .u32 p.pa p.pc (nI p.ps)) w) (ok:∀ p∈l,p.Ok):bZ T (fun w=>wX w a c l) w :=
 (hr.and (GU hs)).mono (fun _ h=>⟨hle,hmax,h.1,h.2,ok⟩)
theorem iF.mkP {w:Nu} {a:OA} {c:Nat} {l:List aX} (hle:l.length<=c) (hmax:l.length<=1000000) (hr:bZ T (fun w=>Rs w a (l.flatMap fun p=>p.row.toList)) w) (hs:∀ t∈l,bZ T (fun w=>wX w t.ka t.kc t.ks) w) (ok:∀ t∈l,t.Ok):bZ T (fun w=>iF w a c l) w :=
 (hr.and (GU hs)).mono (fun _ h=>⟨hle,hmax,h.1,h.2,ok⟩)
theorem apart0 {a:OA} {n:Nat}:zH (fun _=>False) a n:=fun _ _ _=>id
theorem wX.dW {w:Nu} {a:OA} {c:Nat} {l:List dB} (h:wX w a c l):bZ (fun _=>False) (fun w=>wX w a c l) w :=
 wX.mkP h.le h.max (h.rows.uC apart0) (fun p hp=>(h.sub p hp).dW) h.ok
theorem iF.dW {w:Nu} {a:OA} {c:Nat} {l:List aX} (h:iF w a c l):bZ (fun _=>False) (fun w=>iF w a c l) w :=
 iF.mkP h.le h.max (h.rows.uC apart0) (fun t ht=>(h.sub t ht).dW) h.ok
section
variable {P:Nv} {t e:Nw}
theorem Rs.some {w:Nu} {a:OA} {vs:List Ns} (h:Rs w a vs) (hi:i<vs.length):∃ p,a=.some p/\∀ i v,vs[i]? = .some v->w.cell? (p.add i)=.some v:=by
 rcases h with rfl | h
 ·simp at hi
 ·exact h
theorem adr_add (p:Addr) (k o:Nat):zM (some p) (k+o)=some ((p.add k).add o):=by
 unfold zM
 rw [JG,Addr.add_add]
theorem idx_rs (ht:P.underlying t=some (.slice e)) {sz:Nat} (hs:∀ w,(sizeOf e).run P w=.ok sz w) {w:Nu} {a:OA} {c:Nat} {vs:List Ns} {k:Ny} {z:Int} (hr:Rs w a vs) (hv:0<vs.length) (hz:z=(j:Int)) (hj:j<m) :
 (do pure (Jc (<- Ku t (.slice a m c) (.int k z))):Sem Next).run P w=.ok (.value (.pointer (zM a (j*sz)))) w:=by
 subst hz
 obtain ⟨p,rfl,_⟩:=hr.some hv
 simp [Ku,asIntOf,run_underlying ht,hj,hs,zM]
theorem fld_rs {s ft:Nw} {fs:Array Field} {f:Nat} {fd:Field} {o n:Nat} (hu:P.underlying s=some (.struct fs)) (hf:fs[f]? = some fd) (hft:fd.type=ft) (ho:fd.offset=o) (hs:∀ w,(sizeOf ft).run P w=.ok (n+1) w) {w:Nu} {a:OA} {vs:List Ns} (hr:Rs w a vs) (hv:0<vs.length) :
 (do pure (Jc (<- Instr.fieldAt s (.pointer (zM a k)) f)):Sem Next).run P w=.ok (.value (.pointer (zM a (k+o)))) w:=by
 subst hft ho
 obtain ⟨p,rfl,_⟩:=hr.some hv
 rw [adr_add]
 simp [Instr.fieldAt,Lr,fieldPlace,run_underlying hu,hf,hs,zM]
theorem ld_rs1 {w:Nu} {a:OA} {vs:List Ns} {v:Ns} (ha:∀ w,(isAgg e).run P w=.ok false w) (hr:Rs w a vs) (hv:vs[k]? = some v) :
 (do pure (Jc (<- Ko e (.pointer (zM a k)))):Sem Next).run P w=.ok (.value v) w:=by
 obtain ⟨p,rfl,hp⟩:=hr.some (Jl.1 hv).1
 have hp:=hp k v hv
 simp [zM,JG,Ko,Lr,loadVar,KJ,KL,JJ,ha,Bool.false_eq_true,if_false,load,Sem.run,hp]
theorem ld_rsA {w:Nu} {a:OA} {vs us:List Ns} {n:Nat} (ha:∀ w,(isAgg e).run P w=.ok true w) (hs:∀ w,(sizeOf e).run P w=.ok n w) (hr:Rs w a vs) (hn:us.length=n) (h0:0<n) (hv:∀ j,j<n->vs[k+j]? = us[j]?) :
 (do pure (Jc (<- Ko e (.pointer (zM a k)))):Sem Next).run P w=.ok (.value (.agg us.toArray)) w:=by
 have hlt:=by
  have h1:=hv 0 h0
  rw [IX (show 0<us.length by omega)] at h1
  have:=(Jl.1 h1).1
  omega
 obtain ⟨p,rfl,hp⟩:=hr.some hlt
 have hl:=run_loadCells_list (P:=P) w (p.add k) us (fun j v hj=>by
  rw [Addr.add_add]
  have hj':j<n:=by grind
  exact hp _ _ ((hv j hj').trans hj))
 rw [hn] at hl
 simp [zM,JG,Ko,Lr,loadVar,KJ,KL,JJ,ha,if_true,hs,hl]
end
section
variable {P:Nv} {t e:Nw} {w:Nu} {a:Option Addr} {c:Nat}
theorem iF.pos {ts:List aX} (h:iF w a c ts) (hi:i<ts.length):Rs w a (ts.flatMap fun t=>t.row.toList)/\0<(ts.flatMap fun t=>t.row.toList).length:=⟨h.rows,by rw [fm_len aX.lQ];omega⟩
theorem wX.pos {ks:List dB} (h:wX w a c ks) (hi:i<ks.length):Rs w a (ks.flatMap fun t=>t.row.toList)/\0<(ks.flatMap fun t=>t.row.toList).length:=⟨h.rows,by rw [fm_len dB.lQ];omega⟩
theorem iF.idx {ts:List aX} (ht:P.underlying t=some (.slice e)) (hs:∀ w,(sizeOf e).run P w=.ok 36 w) {k:Ny} {z:Int} (h:iF w a c ts) (hm:m=ts.length) (hz:z=(j:Int)) (hj:j<ts.length) :
 (do pure (Jc (<- Ku t (.slice a m c) (.int k z))):Sem Next).run P w=.ok (.value (.pointer (zM a (j*36)))) w:=idx_rs ht hs (h.pos hj).1 (h.pos hj).2 hz om
theorem wX.idx {ks:List dB} (ht:P.underlying t=some (.slice e)) (hs:∀ w,(sizeOf e).run P w=.ok 45 w) {k:Ny} {z:Int} (h:wX w a c ks) (hm:m=ks.length) (hz:z=(j:Int)) (hj:j<ks.length) :
 (do pure (Jc (<- Ku t (.slice a m c) (.int k z))):Sem Next).run P w=.ok (.value (.pointer (zM a (j*45)))) w:=idx_rs ht hs (h.pos hj).1 (h.pos hj).2 hz om
theorem iF.cell {ts:List aX} {v:Ns} (hi:i<ts.length) (hj:j<36) (hv:(gT ts i).row[j]? = some v):(ts.flatMap fun t=>t.row.toList)[i*36+j]? = some v:=by
 rw [fm_get aX.lQ ts i j hi hj,Array.getElem?_toList];exact hv
theorem iF.ld {ts:List aX} {v:Ns} (ha:∀ w,(isAgg e).run P w=.ok false w) (h:iF w a c ts) (hi:i<ts.length) (hj:j<36) (hv:(gT ts i).row[j]? = some v) :
 (do pure (Jc (<- Ko e (.pointer (zM a (i*36+j))))):Sem Next).run P w=.ok (.value v) w:=ld_rs1 ha h.rows (iF.cell hi hj hv)
theorem iF.ldA {ts:List aX} (ha:∀ w,(isAgg e).run P w=.ok true w) (hs:∀ w,(sizeOf e).run P w=.ok 36 w) (h:iF w a c ts) (hi:i<ts.length) :
 (do pure (Jc (<- Ko e (.pointer (zM a (i*36))))):Sem Next).run P w=.ok (.value (.agg (gT ts i).row)) w:=by
 have h1:=ld_rsA ha hs h.rows (aX.lQ _) dC (fun j hj=>fm_get aX.lQ ts i j hi hj)
 rw [KX] at h1;exact h1
theorem wX.ldA {ks:List dB} (ha:∀ w,(isAgg e).run P w=.ok true w) (hs:∀ w,(sizeOf e).run P w=.ok 45 w) (h:wX w a c ks) (hi:i<ks.length) :
 (do pure (Jc (<- Ko e (.pointer (zM a (i*45))))):Sem Next).run P w=.ok (.value (.agg (gK ks i).row)) w:=by
 have h1:=ld_rsA ha hs h.rows (dB.lQ _) dC (fun j hj=>fm_get dB.lQ ks i j hi hj)
 rw [KX] at h1;exact h1
end
end
section
def lU (k:Int):Int:=if k=1\/k=2 then 0 else if k=3\/k=4\/k=5 then 1 else if k=6 then 2 else -1
theorem Df (k:Int): -1<=lU k/\lU k<=2:=by unfold lU;split<;>(try split)<;>(try split)<;>decide
def zC:Int->List aX->Bool
 | m,[]=>decide (m=0)
 | m,t::r=>if m=0\/lU t.kd<0 then false else zC (m+(lU t.kd-1)) r
def fdN (kd m:Int) (nu h n:Nat):Bool :=
 if kd≠2/\m≠0 then false else if (kd≠3/\kd≠4)/\nu≠0 then false else if kd≠5/\h≠0 then false else
 if kd=1 then decide (n=1) else if kd=2 then decide (1<=n/\n<=15/\1<=m/\m<=(n:Int)) else decide (n=0)
def aX.fd (t:aX):Bool:=fdN t.kd t.m t.nu t.h t.ks.length
def dB.w1 (p:dB):Nat:=if p.wd=true then 1 else 0
def dB.vp (p:dB):Bool:=decide (p.ps.length<=8)&&(wB p.k&&(decide (p.k.d+p.ps.length+p.w1<=8)&&(!p.ps.any hdB||decide (p.k.s≠0))))
def vkB (ks:List dB):Bool:=ks.all dB.vp
def aX.vk (t:aX):Bool:=vkB t.ks
def xJ (ts:List aX):Bool:=decide (1<=ts.length/\ts.length<=8)&&(zC 1 ts&&(ts.all aX.fd&&ts.all aX.vk))
section
variable {α:Type} [Inhabited α] {f:α→Bool} {l:List α} {i:Nat}
theorem dropD (h:i<l.length):l.drop i=l.getD i default::l.drop (i+1):=by simp_all
theorem Ce (h:i<l.length) (hf:f (l.getD i default)=true) (hr:(l.drop i).all f=l.all f):(l.drop (i+1)).all f=l.all f:=by
 rw [dropD h,List.all_cons,hf] at hr;exact hr
theorem BZ (h:i<l.length) (hf:f (l.getD i default)=false) (hr:(l.drop i).all f=l.all f):l.all f=false:=by grind
end
theorem EM {α:Type} {f:α->Bool} {l:List α} {i:Nat} (h:l.length<=i) (hr:(l.drop i).all f=l.all f):l.all f=true:=by
 rw [Jz h] at hr;exact hr.symm
theorem any_end {α:Type} {f:α->Bool} {l:List α} {i:Nat} (h:l.length<=i) (hr:(l.drop i).any f=l.any f):l.any f=false:=by
 rw [Jz h] at hr;exact hr.symm
theorem wh_next {ts:List aX} {i:Nat} {m:Int} (h:i<ts.length) (h0:m≠0) (hk: ¬ lU (gT ts i).kd<0) (hr:zC m (ts.drop i)=zC 1 ts):zC (m+(lU (gT ts i).kd-1)) (ts.drop (i+1))=zC 1 ts:=by
 rw [dropD h] at hr
 simp only [zC] at hr
 rw [if_neg (by intro q;rcases q with q | q;exact h0 q;exact hk q)] at hr
 exact hr
theorem wh_stop {ts:List aX} {i:Nat} {m:Int} (h:i<ts.length) (hk:m=0\/lU (gT ts i).kd<0) (hr:zC m (ts.drop i)=zC 1 ts):zC 1 ts=false:=by
 rw [dropD h] at hr
 simp only [zC] at hr
 have hk':m=0\/lU (ts.getD i default).kd<0:=hk
 rw [if_pos hk'] at hr
 exact hr.symm
theorem wh_end {ts:List aX} {i:Nat} {m:Int} (h:ts.length<=i) (hr:zC m (ts.drop i)=zC 1 ts):decide (m=0)=zC 1 ts:=by
 rw [Jz h] at hr;exact hr
theorem beq_dec (m:Int):(m==0)=decide (m=0):=rfl
theorem kd_1 {z:Int} (h:z=1\/z=2):0=lU z:=by unfold lU;rw [if_pos h]
theorem kd_3 {z:Int} (h:z=3\/z=4\/z=5):1=lU z:=by unfold lU;rw [if_neg om,if_pos h]
theorem kd_6 {z:Int} (h:z=6):2=lU z:=by unfold lU;rw [if_neg om,if_neg om,if_pos h]
theorem kd_0 {z:Int} (h: ¬ (1<=z/\z<=6)): -1=lU z:=by unfold lU;rw [if_neg om,if_neg om,if_neg om]
def DY (kd m:Int) (nu h n:Nat):Prop:=(kd=2\/m=0)/\(kd=3\/kd=4\/nu=0)/\(kd=5\/h=0)/\(kd=1->n=1)/\(kd=2->1<=n/\n<=15/\1<=m/\m<=(n:Int))/\(kd≠1->kd≠2->n=0)
theorem xK (kd m : Int) (nu h n : Nat) : fdN kd m nu h n = true ↔ DY kd m nu h n := by
 unfold fdN DY
 split
 ·simp;omega
 ·split
  ·simp;omega
  ·split
   ·simp;omega
   ·split
    ·simp;omega
    ·split
     ·simp;omega
     ·simp;omega
section
variable {kd m:Int} {nu h n:Nat}
theorem GG (q: ¬ DY kd m nu h n):false=fdN kd m nu h n:=(MX.2 (fun e=>q ((xK kd m nu h n).1 e))).symm
theorem fd_d {p:Prop} [Decidable p] (q:p↔DY kd m nu h n):decide p=fdN kd m nu h n:=by rw [Bool.eq_iff_iff,decide_eq_true_eq,xK];exact q
theorem fd_b {x:Int} (q:x=y↔DY kd m nu h n):(x==y)=fdN kd m nu h n:=by rw [Bool.eq_iff_iff,beq_iff_eq,xK];exact q
end
theorem beq_f {x:Int} (h:x≠y):(x==y)=false:=by grind
theorem xP {x:Int} (h:(x != y)=true):x≠y:=by grind
theorem sH {x:Int} (h:(x != y)=false):x=y:=by grind
def shB (ts:List aX):Bool:=zC 1 ts&&(decide (1<=ts.length)&&decide (ts.length<=8))
section
variable {ts:List aX} {m:Int} (hw:decide (m=0)=zC 1 ts)
include hw
theorem sh_0 (h:(m==0)=false):false=shB ts:=by unfold shB;rw [<- hw,<- beq_dec,h];rfl
theorem sh_2 (h:(m==0)=true) (h1:decide (1<=(((ts).length:Nat):Int))=true):decide ((((ts).length:Nat):Int)<=8)=shB ts:=by
 have:=of_decide_eq_true h1
 unfold shB;rw [<- hw,<- beq_dec,h,decide_eq_true (show 1<=ts.length by omega),MK,MK,decide_eq_decide];omega
end
theorem sh_1 {ts:List aX} {m:Int} (_:decide (m=0)=zC 1 ts) (_:(m==0)=true) (h1:decide (1<=(((ts).length:Nat):Int))=false):false=shB ts:=by
 have:=of_decide_eq_false h1
 unfold shB;rw [decide_eq_false om,JM,IV]
theorem vl_a {ts:List aX} (h: ¬ (1<=ts.length/\ts.length<=8)):false=xJ ts:=by unfold xJ;rw [decide_eq_false h];rfl
theorem vl_b {ts:List aX} (h:zC 1 ts=false):false=xJ ts:=by unfold xJ;rw [h,JM,IV]
theorem vl_c {ts:List aX} (h:ts.all aX.fd=false):false=xJ ts:=by unfold xJ;rw [h,JM,IV,IV]
theorem vl_d {ts:List aX} (h:ts.all aX.vk=false):false=xJ ts:=by unfold xJ;rw [h,IV,IV,IV]
theorem vl_e {ts:List aX} (h1:1<=ts.length/\ts.length<=8) (h2:zC 1 ts=true) (h3:ts.all aX.fd=true) (h4:ts.all aX.vk=true):true=xJ ts:=by unfold xJ;rw [decide_eq_true h1,h2,h3,h4];rfl
theorem sh_no {ts:List aX} (h:shB ts=false):false=xJ ts:=by
 unfold shB at h
 cases e:zC 1 ts
 ·exact vl_b e
 ·rw [e,<- Bool.decide_and] at h;exact vl_a (of_decide_eq_false h)
theorem sh_yes {ts:List aX} (h:shB ts=true):(1<=ts.length/\ts.length<=8)/\zC 1 ts=true:=by
 unfold shB at h
 simp at h
 exact ⟨h.2,h.1⟩
theorem w1_t {p:dB} (h:p.wd=true):p.w1=1:=by unfold dB.w1;rw [if_pos h]
theorem w1_f {p:dB} (h:p.wd=false):p.w1=0:=by unfold dB.w1;rw [h];rfl
theorem vp_1 {p:dB} (h: ¬ p.ps.length<=8):false=p.vp:=by unfold dB.vp;rw [decide_eq_false h];rfl
theorem vp_2 {p:dB} (h:wB p.k=false):false=p.vp:=by unfold dB.vp;rw [h,JM,IV]
theorem vp_3 {p:dB} (h: ¬ p.k.d+p.ps.length+p.w1<=8):false=p.vp:=by unfold dB.vp;rw [decide_eq_false h,JM,IV,IV]
theorem vp_4 {p:dB} (h:p.ps.any hdB=true) (hs:p.k.s=0):false=p.vp:=by unfold dB.vp;rw [h,decide_eq_false (not_not_intro hs),Bool.not_true,Bool.or_false,IV,IV,IV]
theorem vp_5 {p:dB} (h1:p.ps.length<=8) (h2:wB p.k=true) (h3:p.k.d+p.ps.length+p.w1<=8) (h:p.ps.any hdB=false\/p.k.s≠0):true=p.vp:=by
 unfold dB.vp
 rw [decide_eq_true h1,h2,decide_eq_true h3]
 rcases h with h | h
 ·rw [h];rfl
 ·rw [decide_eq_true h,Bool.or_true];rfl
theorem hd_dec (x:Nat):decide (2147483648<=((x:Nat):Int))=hdB x:=by unfold hdB;rw [decide_eq_decide];omega
def ixA:List Nat->Nat->Int
 | [],_=> -1
 | x::r,i=>if hdB x=true then (i:Int) else ixA r (i+1)
theorem ixA_any:∀ (ps:List Nat) (i:Nat),decide (0<=ixA ps i)=ps.any hdB
 | [],_=>rfl
 | x :: r, i => by
   rw [ixA,List.any_cons]
   by_cases h:hdB x=true
   ·rw [if_pos h,h];exact decide_eq_true om
   ·rw [MX.2 h];exact ixA_any r (i+1)
theorem ix_next {i:Nat} (h:i<ps.length) (hf:hdB (ps.getD i 0)=false) (hr:ixA (ps.drop i) i=ixA ps 0):ixA (ps.drop (i+1)) (i+1)=ixA ps 0:=by
 rw [GN h,ixA,hf] at hr;exact hr
theorem ix_stop {i:Nat} (h:i<ps.length) (hf:hdB (ps.getD i 0)=true) (hr:ixA (ps.drop i) i=ixA ps 0):(i:Int)=ixA ps 0:=by
 rw [GN h,ixA,hf] at hr;exact hr
theorem ix_end {i:Nat} (h:ps.length<=i) (hr:ixA (ps.drop i) i=ixA ps 0): -1=ixA ps 0:=by
 rw [Jz h] at hr;exact hr
theorem pa_next {i:Nat} {f:Nat->Bool} (h:i<ps.length) (hf:f (ps.getD i 0)=false) (hr:(ps.drop i).any f=ps.any f):(ps.drop (i+1)).any f=ps.any f:=by
 rw [GN h,List.any_cons,hf] at hr;exact hr
theorem pa_stop {i:Nat} {f:Nat->Bool} (h:i<ps.length) (hf:f (ps.getD i 0)=true) (hr:(ps.drop i).any f=ps.any f):ps.any f=true:=by grind
theorem all_endN {i:Nat} {f:Nat->Bool} (h:ps.length<=i) (hr:(ps.drop i).any f=ps.any f):ps.any f=false:=any_end h hr
theorem any_and (ps:List Nat) (b:Bool):(ps.any fun x=>hdB x&&b)=(ps.any hdB&&b):=by grind
def dB.hf (p:dB) (x:Nat):Bool:=hdB x&&decide (p.k.s=0)
theorem hf_a {p:dB} (h:decide (2147483648<=((x:Nat):Int))=false):p.hf x=false:=by unfold dB.hf;rw [<- hd_dec,h];rfl
theorem hf_b {p:dB} (h:decide (p.k.s=0)=false):p.hf x=false:=by unfold dB.hf;rw [h,IV]
theorem hf_c {p:dB} (h:decide (2147483648<=((x:Nat):Int))=true) (h0:decide (p.k.s=0)=true):p.hf x=true:=by unfold dB.hf;rw [<- hd_dec,h,h0];rfl
theorem vp_6 {p:dB} (h:p.ps.any p.hf=true):false=p.vp:=by
 rw [show p.ps.any p.hf=p.ps.any (fun x=>hdB x&&decide (p.k.s=0)) from rfl,any_and,Jb] at h
 exact vp_4 h.1 (of_decide_eq_true h.2)
theorem vp_7 {p:dB} (h:p.ps.any p.hf=false):p.ps.any hdB=false\/p.k.s≠0:=by
 rw [show p.ps.any p.hf=p.ps.any (fun x=>hdB x&&decide (p.k.s=0)) from rfl,any_and,Bool.and_eq_false_iff] at h
 exact h.imp id of_decide_eq_false
end
variable {w w0:Nu} {e:Nw} {fr:Nat × Nat}
def BJ (ts:List aX):List Ns:=ts.flatMap fun t=>t.row.toList
def kpR (ks:List dB):List Ns:=ks.flatMap fun p=>p.row.toList
theorem tmR_len (ts:List aX):(BJ ts).length=ts.length*36:=fm_len aX.lQ ts
theorem kpR_len (ks:List dB):(kpR ks).length=ks.length*45:=fm_len dB.lQ ks
theorem cU_one (s:Nat):∀ u∈(cU s).toList,u.oneCell'=true:=by
 intro u hu
 simp [cU] at hu
 rcases hu with rfl | rfl | rfl | rfl<;>rfl
theorem hB_oneL (h:Nat):∀ u∈(hB h).toList,u.oneCell'=true:=by
 intro u hu
 unfold hB at hu
 simp only [Jk] at hu
 obtain ⟨i,_,rfl⟩:=hu
 rfl
theorem aX.row_one (t:aX):∀ u∈t.row.toList,u.oneCell'=true:=by
 intro u hu
 simp only [aX.row,kJ,Kt,Jw] at hu
 rcases hu with (hu | hu) | hu
 ·simp at hu;rcases hu with rfl | rfl | rfl<;>rfl
 ·exact hB_oneL _ u hu
 ·simp at hu;rcases hu with rfl;rfl
abbrev At (C:Array Ns) (ts:List aX) (c:Nat):Prop:=Av C 36 ts.length (BJ ts) c
theorem At.app {ts us:List aX} (h:Av C 36 (ts.length+us.length) (BJ ts++BJ us) c):At C (ts++us) c:=by
 unfold At
 rw [II,show BJ (ts++us)=BJ ts++BJ us from JL]
 exact h
theorem rsP {sz:Nat} {xs:List Ns} (hT:∀ b,T b->b<w0.heap.size) (hg:w0.heap.size<=g/\w.heap[g]? = some (.cells C e fr)) (hA:Av C sz n xs c):bZ T (fun w=>Rs w (some ⟨g,0,none⟩) xs) w :=
 (Rs.FU hg.2 hA).uC (fun p hp _ hx=>by
  obtain rfl:(⟨g,0,none⟩:Addr)=p:=by simpa using hp
  have h1:g<w0.heap.size:=hT _ hx
  have:=hg.1
  omega)
theorem iF.tail {a:OA} {ts:List aX} (h:iF w a c ts) (h0:0<ts.length):iF w (if c=1 then a else a.map (·.add (1*36))) (c-1) ts.tail:=by
 have hle:=h.le
 refine ⟨by rw [LP];omega,by rw [LP];have:=h.max;omega,?_,fun t ht=>h.sub t (KY ht),fun t ht=>h.ok t (KY ht)⟩
 by_cases hc:c=1
 ·have : ts.tail = [] := JP (by rw [LP]; omega)
  rw [this];exact Ju rfl
 ·rw [if_neg hc]
  have e:(ts.tail.flatMap fun t=>t.row.toList)=(ts.flatMap fun t=>t.row.toList).drop 36:=by
   cases ts with
   | nil=>simp at h0
   | cons t r=>rw [List.tail_cons,JZ,KZ (by rw [aX.lQ];exact IR _),KI (by rw [aX.lQ];exact IR _),List.nil_append]
  rw [e]
  exact h.rows.drop 36
variable {p:dB} {e':Nw}
section
def rM:Ns:=.agg #[.int .i64 0,.int .i64 0,.int .u32 0,.int .u8 0,.int .u8 0,.int .u8 0,.int .u8 0,.int .u8 0,.int .u8 0,.int .u8 0,.int .u8 0,.int .u8 0,.int .u8 0,.int .u8 0,.int .u8 0,.int .u8 0,.int .u8 0,.int .u8 0,.int .u8 0,.int .u8 0,.int .u8 0,.int .u8 0,.int .u8 0,.int .u8 0,.int .u8 0,.int .u8 0,.int .u8 0,.int .u8 0,.int .u8 0,.int .u8 0,.int .u8 0,.int .u8 0,.int .u8 0,.int .u8 0,.int .u8 0,.slice none 0 0]
def SoftK (p:dB):Prop:=True/\∀ i∈p.ps,hdB i=false
def SoftL (t:aX):Prop:=t.ks.length<=2/\(t.kd=2->t.ks.length=2)/\∀ p∈t.ks,SoftK p
def Soft (ts:List aX):Prop:=∀ t∈ts,SoftL t
def TmN (w:Nu) (a:OA) (c:Nat) (ts:List aX):Prop:=iF w a c ts/\0<ts.length/\ts.length<=8/\Soft ts
def ot (ρ:Nat->bT) (i:Nat):List aX:=(ρ i).t
section
variable {P:Nv} {ops:Array Oper} {D:List Nat} {l:List (Nat × Ns)} {w0:nN} {h:List (Nat × Obj)} {F0:Nu→Prop}
variable {vals:(Nat→bT)→Nat→Ns} {effs:(Nat→bT)→Nat→qJ} {fact:(Nat→bT)→Nat→Nu→Prop}
theorem o_callGT (i:Nat) (f:Nz) (args:(Nat->bT)->Array Ns)
 (hc:∀ ρ z,iG P ops D l (vals ρ) i z=some (.enter f (args ρ),[],[]))
 (he:∀ ρ r,effs (dU ρ i r) i={})
 (hf:∀ ρ T w,iM ops D w0 h F0 effs fact i ρ T w->Calls P f (args ρ) w (fun e w'=>Below w.heap.size w w'/\∃ r,e=.returned (vals (dU ρ i r) i)/\bZ T (fact (dU ρ i r) i) w')):mW P ops D l w0 h F0 vals effs fact i:=by
 have key:∀ ρ z,((ops[i]?).isSome=true/\nD (vals ρ) (iR ops i)=true)/\uN P (execOp (eX ops D l (vals ρ) i) (iR ops i)) [] [] z=some (.enter f (args ρ),[],[]):=by
  intro ρ z
  have h1:=hc ρ z
  unfold iG at h1
  split at h1
  ·rename_i hb
   simp only [Jb] at hb
   exact ⟨hb,h1⟩
  ·exact absurd h1 (by simp)
 intro o ho ρ T w hG
 have hoe:=lN (key ρ []).1.1
 rw [ho] at hoe
 obtain rfl:o=iR ops i:=by grind
 rw [if_pos (key ρ []).1.2]
 obtain ⟨w1,h1,_,_,h4,_,_⟩:=uK (execOp (eX ops D l (vals ρ) i) (iR ops i)) [] [] w _ _ _ (by intro y hy;simp at hy) (by simp) ((key ρ _).2) trivial
 have hb:Below w.heap.size w w1:=⟨h4.os,h4.tape,h4.output,h4.size,fun k hk=>h4.block k hk (by simp)⟩
 have hheap:= fun b hb'=>hb.block b hb'
 have hG1:iM ops D w0 h F0 effs fact i ρ T w1:=by
  have tr:∀ {F:Nu->Prop},bZ T F w->bZ T F w1:=by
   rintro F ⟨S,s1,s2⟩
   refine ⟨S,fun b hb'=>⟨Ja (s1 b hb').1 hb.size,(s1 b hb').2⟩,fun w' hw=>s2 w' (fun b hb'=>?_)⟩
   rw [hw b hb',hheap b (s1 b hb').1]
  refine ⟨fun b hb'=>Ja (hG.lt b hb') hb.size,hG.aS.trans (pG.vU hb),fun n x hn hk=>?_,hG.ne,tr hG.iE,fun j hj=>tr (hG.facts j hj)⟩
  have:=hG.block n x hn hk
  refine ⟨?_,this.2⟩
  rw [hheap _ (hG.lt _ this.2.1)]
  exact this.1
 unfold opv
 rw [h1]
 refine (hf ρ T w1 hG1).mono (fun e w2 hew=>?_)
 obtain ⟨hb2,r,rfl,hp⟩:=hew
 refine ⟨r,rfl,pG.vU (hb.trans (hb2.mono hb.size)),?_,?_,?_,?_⟩
 ·rw [he];intro n q hm;simp at hm
 ·rw [he];intro k b q hk;simp at hk
 ·rw [he];simp
 ·rw [he]
  refine hp.sub (fun b hbT=>?_)
  rcases hbT with hbT | hbT
  ·exact hbT
  ·simp at hbT
theorem o_callT (i:Nat) (f:Nz) (args:(Nat->bT)->Array Ns) (v:(Nat->bT)->OA->Nat->List aX->Ns)
 (hf:∀ ρ T w,iM ops D w0 h F0 effs fact i ρ T w->Calls P f (args ρ) w (fun e w'=>Below w.heap.size w w'/\∃ a c ts,e=.returned (v ρ a c ts)/\bZ T (fun w=>iF w a c ts) w'))
 (hc:∀ ρ z,iG P ops D l (vals ρ) i z=some (.enter f (args ρ),[],[]):=by intros;kernel_rfl)
 (hv:∀ ρ r,vals (dU ρ i r) i=v ρ r.a (r.n.headD 0) r.t:=by intros;kernel_rfl) (he:∀ ρ r,effs (dU ρ i r) i={}:=by intros;kernel_rfl)
 (ht:∀ ρ r,fact (dU ρ i r) i=(fun w=>iF w r.a (r.n.headD 0) r.t):=by intros;kernel_rfl):mW P ops D l w0 h F0 vals effs fact i:=by
 refine o_callGT i f args hc he (fun ρ T w hG=>(hf ρ T w hG).mono (fun e w' hew=>?_))
 obtain ⟨hb,a,c,ts,h1,h2⟩:=hew
 refine ⟨hb,{ n:=[c],a:=a,t:=ts},?_,?_⟩
 ·rw [hv];exact h1
 ·rw [ht];exact h2
theorem o_callWT (i:Nat) (ns:List Nat) (f:Nz) (args:(Nat->bT)->Array Ns) (v:(Nat->bT)->OA->Nat->List aX->Ns) (K:(Nat->bT)->List (Nat × Obj)) (K':(Nat->bT)->Nat->List (Nat × Obj))
 (hf:∀ ρ T w,iM ops D w0 h F0 effs fact i ρ T w->bI (K ρ) w->Calls P f (args ρ) w (fun e w'=>∃ a c ts j,e=.returned (v ρ a c ts)/\pG (fun b=>b∈(K ρ).map (·.1)) w w'/\bI (K' ρ j) w'/\bZ (fun b=>b<w.heap.size) (fun w=>TmN w a c ts) w'))
 (hc:∀ ρ z,iG P ops D l (vals ρ) i z=some (.enter f (args ρ),[],[]):=by intros;kernel_rfl)
 (hv:∀ ρ r,vals (dU ρ i r) i=v ρ r.a (r.n.headD 0) r.t:=by intros;kernel_rfl) (he:∀ ρ r,effs (dU ρ i r) i={ puts:=ns.zip (K' ρ (r.n.tail.headD 0))}:=by intros;kernel_rfl)
 (hn:∀ ρ,fM ops D h (effs ρ) i ns=true:=by intros;kernel_rfl) (hk:∀ ρ,gG ops D h (effs ρ) i ns=K ρ:=by intros;kernel_rfl) (hl:∀ ρ j,(K' ρ j).map (·.1)=(K ρ).map (·.1):=by intros;kernel_rfl)
 (ht:∀ ρ r,fact (dU ρ i r) i=(fun w=>TmN w r.a (r.n.headD 0) r.t):=by intros;kernel_rfl):mW P ops D l w0 h F0 vals effs fact i:=by
 refine Ii i ns f args K (fun ρ r=>K' ρ (r.n.tail.headD 0)) hc he hn hk (fun ρ r=>hl ρ _) (fun ρ T w hG hK=>(hf ρ T w hG hK).mono (fun e w' hew=>?_))
 obtain ⟨a,c,ts,j,h1,h2,h3,h4⟩:=hew
 refine ⟨h2,{ n:=[c,j],a:=a,t:=ts},?_,h3,?_⟩
 ·rw [hv];exact h1
 ·rw [ht];exact h4
theorem o_callWJ (i:Nat) (ns:List Nat) (f:Nz) (args:(Nat->bT)->Array Ns) (v:(Nat->bT)->OA->Nat->Ns) (ik:Ny) (zs:(Nat->bT)->List Int) (K K':(Nat->bT)->List (Nat × Obj))
 (hf:∀ ρ T w,iM ops D w0 h F0 effs fact i ρ T w->bI (K ρ) w->Calls P f (args ρ) w (fun e w'=>∃ a c,e=.returned (v ρ a c)/\pG (fun b=>b∈(K ρ).map (·.1)) w w'/\bI (K' ρ) w'/\Fi w w' ik a c (zs ρ)))
 (hc:∀ ρ z,iG P ops D l (vals ρ) i z=some (.enter f (args ρ),[],[]):=by intros;kernel_rfl)
 (hv:∀ ρ r,vals (dU ρ i r) i=v ρ r.a (r.n.headD 0):=by intros;kernel_rfl) (he:∀ ρ r,effs (dU ρ i r) i={ puts:=ns.zip (K' ρ)}:=by intros;kernel_rfl)
 (hn:∀ ρ,fM ops D h (effs ρ) i ns=true:=by intros;kernel_rfl) (hk:∀ ρ,gG ops D h (effs ρ) i ns=K ρ:=by intros;kernel_rfl) (hl:∀ ρ,(K' ρ).map (·.1)=(K ρ).map (·.1):=by intros;kernel_rfl)
 (ht:∀ ρ r,fact (dU ρ i r) i=(fun w=>Fi w0.w w ik r.a (r.n.headD 0) (zs ρ)):=by intros;kernel_rfl):mW P ops D l w0 h F0 vals effs fact i:=by
 refine Ii i ns f args K (fun ρ _=>K' ρ) hc he hn hk (fun ρ _=>hl ρ) (fun ρ T w hG hK=>(hf ρ T w hG hK).mono (fun e w' hew=>?_))
 obtain ⟨a,c,h1,h2,h3,h4⟩:=hew
 refine ⟨h2,{ n:=[c],a:=a},?_,h3,?_⟩
 ·rw [hv];exact h1
 ·rw [ht];exact (h4.uC (fun b hb=>hb)).mono (fun _ hi=>⟨hi,fun p hp hn=>Jq hG.aS.size (h4.2 p hp hn)⟩)
theorem qWJ (ns:List Nat) {f:Nz} {args:(Nat->bT)->Array Ns} {v:(Nat->bT)->OA->Nat->Ns} {ik:Ny} {zs:(Nat->bT)->List Int} {K K':(Nat->bT)->List (Nat × Obj)}
 (hf:∀ ρ T w,iM ops D w0 h F0 effs fact i ρ T w->bI (K ρ) w->Calls P f (args ρ) w (fun e w'=>∃ a c,e=.returned (v ρ a c)/\pG (fun b=>b∈(K ρ).map (·.1)) w w'/\bI (K' ρ) w'/\Fi w w' ik a c (zs ρ)))
 (hc:∀ ρ z,iG P ops D l (vals ρ) i z=some (.enter f (args ρ),[],[]):=by intros;kernel_rfl)
 (hv:∀ ρ r,vals (dU ρ i r) i=v ρ r.a (r.n.headD 0):=by intros;kernel_rfl) (he:∀ ρ r,effs (dU ρ i r) i={ puts:=ns.zip (K' ρ)}:=by intros;kernel_rfl)
 (hn:∀ ρ,fM ops D h (effs ρ) i ns=true:=by intros;kernel_rfl) (hk:∀ ρ,gG ops D h (effs ρ) i ns=K ρ:=by intros;kernel_rfl) (hl:∀ ρ,(K' ρ).map (·.1)=(K ρ).map (·.1):=by intros;kernel_rfl)
 (ht:∀ ρ r,fact (dU ρ i r) i=(fun w=>Fi w0.w w ik r.a (r.n.headD 0) (zs ρ)):=by intros;kernel_rfl):mW P ops D l w0 h F0 vals effs fact i:=o_callWJ i ns f args v ik zs K K' hf hc hv he hn hk hl ht
end
section
variable {P:Nv} {t e:Nw} {b:Nat} {z:Ns}
theorem Dx {x:aX} {T tx:Nw} (hk:P.underlying tx=some (.slice e')) (hb:w.heap[g]? = some (.cells x.row T fr)):Src P 36 tx (.slice (some ⟨g,0,none⟩) 1 1) 1 (BJ [x]) w:=by
 have e:BJ [x]=x.row.toList:=by simp [BJ]
 rw [e]
 exact GZ hk om (by rw [x.lQ]) (I5.2 x.row_one)
theorem src_t2 {x y:aX} {T tx:Nw} (hk:P.underlying tx=some (.slice e')) (hb:w.heap[g]? = some (.cells (x.row++y.row) T fr)):Src P 36 tx (.slice (some ⟨g,0,none⟩) 2 2) 2 (BJ [x,y]) w:=by
 have e:BJ [x,y]=(x.row++y.row).toList:=by simp [BJ]
 rw [e]
 exact GZ hk om (by rw [Kt,II,x.lQ,y.lQ]) (I5.2 (fun u hu=>by
  rw [Kt] at hu
  exact (Jw.1 hu).elim (x.row_one u) (y.row_one u)))
theorem CQ {tx:Nw} (ht:P.underlying t=some (.slice e)) (hi:Ed P e 36 b z) {x:Ns} {us:List aX} (hs:Src P 36 tx x us.length (BJ us) w) (h0:0<us.length) (hm:us.length<=1000) (hb:b<=1000) :
 ∃ k w',(do pure (Jc (<- JU #[t,tx] ty #[.slice none 0 0,x])):Sem Next).run P w=.ok (.value (.slice (some ⟨([w.heap.size,k]:List Nat).headD 0,0,none⟩) us.length (us.length+([w.heap.size,k]:List Nat).tail.headD 0))) w'/\Ew w w' (.cells ((BJ us).toArray++J4 z.cells (([w.heap.size,k]:List Nat).tail.headD 0)) e (0,0)) :=
 appV_nil ht hi hs h0 om (Jq (KF hm hb) dC)
theorem At.fresh (hz:z.cells.size=36) (us:List aX) (k:Nat):At ((BJ us).toArray++J4 z.cells k) us (us.length+k):=Av.fresh hz (tmR_len us) k
theorem appT_any {tx:Nw} (ht:P.underlying t=some (.slice e)) (hi:Ed P e 36 b z) {x:Ns} {ts us:List aX} (hA:At C ts c) (hs:Src P 36 tx x us.length (BJ us) w) (hm:ts.length+us.length<=1000) (hb:b<=1000) (hg:w.heap[g]? = some (.cells C e (0,0))) :
 ∃ r w',(do pure (Jc (<- JU #[t,tx] ty #[.slice (some ⟨g,0,none⟩) ts.length c,x])):Sem Next).run P w=.ok (.value (.slice (some ⟨r.n.headD 0,0,none⟩) (ts++us).length (r.n.tail.headD 0))) w'/\At (uO r) (ts++us) (r.n.tail.headD 0)/\H8 w w' g (r.n.headD 0) (.cells (uO r) e (0,0)):=by
 obtain ⟨r,w',h1,h2,h3⟩:=appV_any ht hi hA hs om (Jq (KF hm hb) dC) hg
 refine ⟨r,w',?_,At.app h2,h3⟩
 rw [II];exact h1
end
theorem kp_one (p:dB):∀ u∈p.row.toList,u.oneCell'=true:=by
 intro u hu
 simp only [dB.row,vV,Kt,Jw] at hu
 rcases hu with ((hu | hu) | hu) | hu
 ·exact cU_one _ u hu
 ·exact cU_one _ u hu
 ·exact hB_oneL _ u hu
 ·simp at hu;rcases hu with rfl | rfl | rfl | rfl | rfl<;>rfl
theorem Ak.one (p:dB):Av p.row 45 1 (kpR [p]) 1:=by
 have e:kpR [p]=p.row.toList:=by simp [kpR]
 have hl:=p.lQ
 refine ⟨?_,?_,IR _,?_⟩
 ·rw [e,J9]
 ·rw [kpR_len];rfl
 ·exact hl
theorem Ak.two (p q:dB):Av (p.row++q.row) 45 2 (kpR [p,q]) 2:=by
 have e:kpR [p,q]=(p.row++q.row).toList:=by simp [kpR]
 have hl:=p.lQ
 have hq:=q.lQ
 rw [Jy] at hl hq
 refine ⟨?_,?_,IR _,?_⟩
 ·rw [e,J9]
 ·rw [kpR_len];rfl
 ·rw [Array.size_append,hl,hq]
theorem kf1 {w0:Nu} {e:Nw} (hT:∀ b,T b->b<w0.heap.size) (hg:w0.heap.size<=g/\w.heap[g]? = some (.cells p.row e fr)) (hf:bZ T (fun w=>Is w .u32 p.pa p.pc (nI p.ps)) w) (ho:p.Ok):bZ T (fun w=>wX w (some ⟨g,0,none⟩) 1 [p]) w :=
 wX.mkP (IR 1) (L8 rfl) (rsP hT hg (Ak.one p)) (fun q hq=>by grind) (fun q hq=>by grind)
theorem kf2 {w0:Nu} {e:Nw} {q:dB} (hT:∀ b,T b->b<w0.heap.size) (hg:w0.heap.size<=g/\w.heap[g]? = some (.cells (p.row++q.row) e fr)) (hf:bZ T (fun w=>Is w .u32 p.pa p.pc (nI p.ps)) w) (ho:p.Ok) (hf2:bZ T (fun w=>Is w .u32 q.pa q.pc (nI q.ps)) w) (ho2:q.Ok):bZ T (fun w=>wX w (some ⟨g,0,none⟩) 2 [p,q]) w :=
 wX.mkP (IR 2) (L8 rfl) (rsP hT hg (Ak.two p q)) (fun r hr=>by grind) (fun r hr=>by
  rcases JC.1 hr with rfl | hr
  ·exact ho
  ·rw [IY.1 hr];exact ho2)
def MadeT (T:Nat->Prop) (w:Nu) (t:aX):Prop:=t.Ok/\bZ T (fun w=>wX w t.ka t.kc t.ks) w/\SoftL t
theorem soft_0 {t:aX} (h:t.ks=[]) (hk:t.kd≠2):SoftL t:=⟨by grind,fun q=>absurd q hk,by grind⟩
theorem soft_1 {t:aX} {q:dB} (h:t.ks=[q]) (hk:t.kd≠2) (hq:SoftK q):SoftL t:=⟨by grind,fun q=>absurd q hk,fun p hp=>by grind⟩
theorem soft_2 {t:aX} {q r:dB} (h:t.ks=[q,r]) (hq:SoftK q) (hr:SoftK r):SoftL t:=⟨by grind,fun _=>by grind,fun p hp=>by grind⟩
theorem made_app {ts us:List aX} (h:∀ t∈ts,MadeT T w t) (h2:∀ t∈us,MadeT T w t):∀ t∈ts++us,MadeT T w t:=by grind
theorem made_1 {t:aX} (h:MadeT T w t):∀ x∈[t],MadeT T w x:=by grind
theorem Eb {w0:Nu} {e:Nw} {ts:List aX} (hT:∀ b,T b->b<w0.heap.size) (hg:w0.heap.size<=g/\w.heap[g]? = some (.cells C e fr)) (hA:At C ts c) (h:∀ t∈ts,MadeT T w t) (h0:0<ts.length) (h8:ts.length<=8):bZ T (fun w=>TmN w (some ⟨g,0,none⟩) c ts) w :=
 (iF.mkP hA.le om (rsP hT hg hA) (fun t ht=>(h t ht).2.1) (fun t ht=>(h t ht).1)).mono (fun _ hh=>⟨hh,h0,h8,fun t ht=>(h t ht).2.2⟩)
end
def dm (v:Int) (n:Nat):Nat:=(v%(n:Int)).toNat
theorem dm_lt (v:Int) (hn:0<n):dm v n<n:=by
 unfold dm
 have:=LY v (b:=(n:Int)) om
 have:=Ls v (b:=(n:Int)) om
 omega
def pN (zs:List Int) (j:Nat):Nat:=min j zs.length
def dN (zs:List Int) (j n:Nat):Nat:=if j<zs.length then dm (gI zs j) n else 0
theorem rY (zs:List Int) (j:Nat) (hn:0<n):dN zs j n<n:=by
 unfold dN
 split
 ·exact dm_lt _ hn
 ·exact hn
theorem pN_zero (zs:List Int):pN zs 0=0:=Nat.zero_min _
theorem pN_lt {zs:List Int} (h:pN zs j<zs.length):j<zs.length/\pN zs j=j:=by unfold pN at *;omega
theorem pN_ge {zs:List Int} (h: ¬ pN zs j<zs.length): ¬ j<zs.length/\pN zs (j+1)=pN zs j:=by unfold pN at *;omega
theorem pN_succ {zs:List Int} (h:pN zs j<zs.length):pN zs (j+1)=pN zs j+1:=by unfold pN at *;omega
theorem dN_yes {zs:List Int} (h:pN zs j<zs.length):dm (gI zs (pN zs j)) n=dN zs j n:=by
 obtain ⟨h1,h2⟩:=pN_lt h
 unfold dN
 rw [if_pos h1,h2]
theorem dN_no {zs:List Int} (h: ¬ pN zs j<zs.length):0=dN zs j n:=by
 unfold dN
 rw [if_neg (pN_ge h).1]
theorem mod_pos {v:Int} (h: ¬ MV v n<0):MV v n=((dm v n:Nat):Int):=by
 unfold dm
 rcases Nat.eq_zero_or_pos n with h0 | h0
 ·subst h0
  simp at h ⊢
  omega
 ·have e := LY v (b := (n : Int)) om
  have e2:=Ls v (b:=(n:Int)) om
  have h2:=Int.tmod_eq_emod (a:=v) (b:=(n:Int))
  rw [MP] at h2
  split at h2<;>omega
theorem mod_neg {v:Int} (hn:0<n) (h:MV v n<0):MV v n+n=((dm v n:Nat):Int):=by
 unfold dm
 have e:=LY v (b:=(n:Int)) om
 have e2:=Ls v (b:=(n:Int)) om
 have h2:=Int.tmod_eq_emod (a:=v) (b:=(n:Int))
 rw [MP] at h2
 split at h2<;>omega
def hs2 (a b:Nat):Nat:=a*256^31+b
theorem hs2_lt (ha:a<256) (hb:b<256):hs2 a b<M:=by
 unfold hs2
 rw [wZ]
 have:a*256^31<=255*256^31:=Je _ om
 omega
theorem hs2_byt (ha:a<256) (hb:b<256) (i:Nat) (hi:i<32):bN (hs2 a b) i=if i=0 then a else if i=31 then b else 0:=by
 unfold bN hs2
 by_cases h0:i=0
 ·subst h0
  rw [if_pos rfl]
  omega
 ·rw [if_neg h0]
  by_cases h1:i=31
  ·subst h1
   rw [if_pos rfl]
   omega
  ·rw [if_neg h1]
   obtain ⟨j,hj⟩:∃ j,31-i=j+1:=⟨30-i,by omega⟩
   have e1:256^31=256^(31-i)*256^i:=by rw [<- Jd];congr 1;omega
   have e2:b / 256^(31-i)=0:=IP (Ja hb (by rw [hj];exact Nat.le_self_pow om 256))
   rw [e1,IJ a,IL,Nat.mul_add_div (I4 dC),e2,JS,IJ]
   obtain ⟨q,hq⟩:∃ q,i=q+1:=⟨i-1,by omega⟩
   rw [hq,IZ,<- IL]
   exact LK _ _
theorem hs2_agg (ha:a<256) (hb:b<256):Nr #[.int .u8 ((a:Nat):Int),.int .u8 0,.int .u8 0,.int .u8 0,.int .u8 0,.int .u8 0,.int .u8 0,.int .u8 0,.int .u8 0,.int .u8 0,.int .u8 0,.int .u8 0,.int .u8 0,.int .u8 0,.int .u8 0,.int .u8 0,.int .u8 0,.int .u8 0,.int .u8 0,.int .u8 0,.int .u8 0,.int .u8 0,.int .u8 0,.int .u8 0,.int .u8 0,.int .u8 0,.int .u8 0,.int .u8 0,.int .u8 0,.int .u8 0,.int .u8 0,.int .u8 ((b:Nat):Int)]=.agg (hB (hs2 a b)):=by
 congr 1
 apply hB_ext rfl
 intro j hj
 rw [byt_bN,hs2_byt ha hb j hj]
 match j,hj with
 | 0,_=>rfl
 | 1,_=>rfl
 | 2,_=>rfl
 | 3,_=>rfl
 | 4,_=>rfl
 | 5,_=>rfl
 | 6,_=>rfl
 | 7,_=>rfl
 | 8,_=>rfl
 | 9,_=>rfl
 | 10,_=>rfl
 | 11,_=>rfl
 | 12,_=>rfl
 | 13,_=>rfl
 | 14,_=>rfl
 | 15,_=>rfl
 | 16,_=>rfl
 | 17,_=>rfl
 | 18,_=>rfl
 | 19,_=>rfl
 | 20,_=>rfl
 | 21,_=>rfl
 | 22,_=>rfl
 | 23,_=>rfl
 | 24,_=>rfl
 | 25,_=>rfl
 | 26,_=>rfl
 | 27,_=>rfl
 | 28,_=>rfl
 | 29,_=>rfl
 | 30,_=>rfl
 | 31,_=>rfl
 | j+32,h=>exact absurd h om
def mkX (zs:List Int) (j:Nat):Nat:=1+dN zs j 4
def mkK (zs:List Int) (j:Nat) (b:Bool):Ky:={ s:=if b=true then mkX zs j else 0,p:=oW (mkX zs j),c:=hs2 (dN zs (j+1) 5) (dN zs (j+2) 7),d:=((dN zs (j+3) 3:Nat):Int),i:=dN zs (j+4) 5,n:=dN zs (j+5) 5}
theorem mkX_pos (zs:List Int) (j:Nat):1<=mkX zs j/\mkX zs j<5:=by
 have:=rY zs j (n:=4) dC
 unfold mkX
 omega
theorem small_lt (h:x<256):x<M:=by rw [wZ];exact J8 h dC
theorem mkX_lt (zs:List Int) (j:Nat):mkX zs j<M:=small_lt (by have:=mkX_pos zs j;omega)
theorem mkK_ok (zs:List Int) (j:Nat) (b:Bool):(mkK zs j b).Ok:=by
 have h1:=rY zs (j+1) (n:=5) dC
 have h2:=rY zs (j+2) (n:=7) dC
 have h4:=rY zs (j+4) (n:=5) dC
 have h5:=rY zs (j+5) (n:=5) dC
 exact ⟨ifM (mkX_lt _ _) sK,pubV_lt _,hs2_lt om om,by show dN zs (j+4) 5<_;omega,by show dN zs (j+5) 5<_;omega⟩
theorem mX (h:((((B).length:Nat):Int) != 74)=false):B.length=74:=by
 have:((B.length:Nat):Int)=74:=by simpa using h
 omega
theorem len74n (h:((((B).length:Nat):Int) != 74)=true):B.length≠74:=by
 intro e
 rw [e] at h
 exact absurd h dC
theorem b01 (h:(((x:Nat):Int)==0)=true):x=0:=by
 have:((x:Nat):Int)=0:=by simpa using h
 omega
theorem b00 (h:(((x:Nat):Int)==0)=false):x≠0:=by
 intro e;subst e;exact absurd h dC
section
def aK (ts:List aX):List dB:=ts.flatMap aX.ks
theorem Gh {ts:List aX} (h:xJ ts=true):(1<=ts.length/\ts.length<=8)/\zC 1 ts=true/\ts.all aX.fd=true/\ts.all aX.vk=true:=by
 unfold xJ at h
 simpa only [Jb,decide_eq_true_eq] using h
def dB.er (p:dB):dB:=⟨p.k,p.ps,p.wd,none,0⟩
def aX.er (t:aX):aX:=⟨t.kd,t.m,t.nu,t.h,t.ks.map dB.er,none,0⟩
section
variable {g:dB→dB} {G:aX→aX} (hG:∀ t,G t=⟨t.kd,t.m,t.nu,t.h,t.ks.map g,none,0⟩)
include hG
theorem map_wh:∀ (m:Int) (ts:List aX),zC m (ts.map G)=zC m ts
 | _,[]=>rfl
 | m, t :: r => by
   have hk:(G t).kd=t.kd:=by rw [hG]
   rw [Kv]
   simp only [zC]
   rw [hk,map_wh _ r]
theorem map_fd (ts:List aX):(ts.map G).all aX.fd=ts.all aX.fd:=by
 rw [List.all_map]
 exact congrFun (congrArg List.all rfl) _ |>.trans (by congr 1;funext t;show (G t).fd=t.fd;rw [hG];unfold aX.fd;rw [Le])
theorem map_aK:∀ ts:List aX,aK (ts.map G)=(aK ts).map g
 | []=>rfl
 | t :: r => by
   show (G t).ks++aK (r.map G)=(t.ks++aK r).map g
   rw [List.map_append,map_aK r,hG]
end
theorem vk_aK:∀ ts:List aX,ts.all aX.vk=(aK ts).all dB.vp
 | []=>rfl
 | t::r=>by show (t.vk&&r.all aX.vk)=(t.ks++aK r).all dB.vp;rw [List.all_append,vk_aK r];rfl
theorem vl_er (ts:List aX):xJ (ts.map aX.er)=xJ ts:=by
 unfold xJ
 rw [Le,map_wh (G:=aX.er) (g:=dB.er) (fun _=>rfl),map_fd (G:=aX.er) (g:=dB.er) (fun _=>rfl),vk_aK,vk_aK,map_aK (G:=aX.er) (g:=dB.er) (fun _=>rfl),List.all_map]
 rfl
end
section
structure oP (α:Type) (sz:Nat) where
 f:α->List Ns
 len:∀ x,(f x).length=sz
 one:∀ x,∀ u∈f x,u.oneCell'=true
section
variable {α:Type} {sz:Nat} (K:oP α sz)
def oP.r (l:List α):List Ns:=l.flatMap K.f
theorem oP.r_len (l:List α):(K.r l).length=l.length*sz:=fm_len K.len l
theorem oP.r_one (l:List α):∀ u∈K.r l,u.oneCell'=true:=by
 intro u hu
 obtain ⟨x,_,hx⟩:=List.mem_flatMap.1 hu
 exact K.one x u hx
theorem oP.r_app (l m:List α):K.r (l++m)=K.r l++K.r m:=JL ..
def oP.A (C:Array Ns) (l:List α) (c:Nat):Prop:=Av C sz l.length (K.r l) c
variable {K}
theorem oP.A.app {l m:List α} (h:Av C sz (l.length+m.length) (K.r l++K.r m) c):K.A C (l++m) c:=by
 unfold oP.A
 rw [II,K.r_app];exact h
theorem oP.A.fresh {z:Ns} (hz:z.cells.size=sz) (l:List α) (k:Nat):K.A ((K.r l).toArray++J4 z.cells k) l (l.length+k):=Av.fresh hz (K.r_len l) k
theorem oP.src {P:Nv} {l:List α} {T tx:Nw} (hk:P.underlying tx=some (.slice e')) (hb:w.heap[g]? = some (.cells (K.r l).toArray T fr)):Src P sz tx (.slice (some ⟨g,0,none⟩) l.length c) l.length (K.r l) w :=
 GZ hk hb (K.r_len l) (I5.2 (K.r_one l))
variable {P:Nv} {t e:Nw} {b:Nat} {z:Ns}
theorem BM {tx:Nw} (ht:P.underlying t=some (.slice e)) (hi:Ed P e sz b z) {x:Ns} {us:List α} (hs:Src P sz tx x us.length (K.r us) w) (h0:0<us.length) (hm:us.length<=1000) (hb:b<=1000) :
 ∃ k w',(do pure (Jc (<- JU #[t,tx] ty #[.slice none 0 0,x])):Sem Next).run P w=.ok (.value (.slice (some ⟨([w.heap.size,k]:List Nat).headD 0,0,none⟩) us.length (us.length+([w.heap.size,k]:List Nat).tail.headD 0))) w'/\Ew w w' (.cells ((K.r us).toArray++J4 z.cells (([w.heap.size,k]:List Nat).tail.headD 0)) e (0,0)) :=
 appV_nil ht hi hs h0 om (Jq (KF hm hb) dC)
theorem Cc {tx:Nw} (ht:P.underlying t=some (.slice e)) (hi:Ed P e sz b z) {x:Ns} {ts us:List α} (hA:K.A C ts c) (hs:Src P sz tx x us.length (K.r us) w) (hm:ts.length+us.length<=100000) (hb:b<=1000) (hg:w.heap[g]? = some (.cells C e (0,0))) :
 ∃ r w',(do pure (Jc (<- JU #[t,tx] ty #[.slice (some ⟨g,0,none⟩) ts.length c,x])):Sem Next).run P w=.ok (.value (.slice (some ⟨r.n.headD 0,0,none⟩) (ts++us).length (r.n.tail.headD 0))) w'/\K.A (uO r) (ts++us) (r.n.tail.headD 0)/\H8 w w' g (r.n.headD 0) (.cells (uO r) e (0,0)):=by
 obtain ⟨r,w',h1,h2,h3⟩:=appV_any (ty:=ty) ht hi hA hs om (Jq (KF hm hb) dC) hg
 refine ⟨r,w',?_,oP.A.app h2,h3⟩
 rw [II];exact h1
end
def kI:oP Nat 1:=⟨fun n=>[.int .u32 ((n:Nat):Int)],fun _=>rfl,fun n u hu=>by rw [IY.1 hu];rfl⟩
theorem src_i1 {P:Nv} {T tx:Nw} (hk:P.underlying tx=some (.slice e')) (hb:w.heap[g]? = some (.cells #[.int .u32 ((n:Nat):Int)] T fr)):Src P 1 tx (.slice (some ⟨g,0,none⟩) 1 1) [n].length (kI.r [n]) w :=
 oP.src (K:=kI) (l:=[n]) hk hb
theorem kI_iv:∀ ps:List Nat,iv .u32 (nI ps)=kI.r ps
 | []=>rfl
 | p :: r => by
   show LM .u32 ((p:Nat):Int)::iv .u32 (nI r)=.int .u32 ((p:Nat):Int)::kI.r r
   rw [kI_iv r]
theorem Is.of_kI {T:Nw} (hb:w.heap[g]? = some (.cells C T fr)) (hA:kI.A C ps c) (hm:ps.length<=140737488351232):Is w .u32 (some ⟨g,0,none⟩) c (nI ps) :=
 Is.FU hb (by rw [kI_iv,y9];exact hA) (by rw [y9];exact hm)
section
variable {P:Nv} {t e:Nw} {b:Nat} {z:Ns}
theorem appI_nil {tx:Nw} (ht:P.underlying t=some (.slice e)) (hi:Ed P e 1 b z) {x:Ns} {us:List Nat} (hs:Src P 1 tx x us.length (kI.r us) w) (h0:0<us.length) (hm:us.length<=1000) (hb:b<=1000) :
 ∃ k w',(do pure (Jc (<- JU #[t,tx] ty #[.slice none 0 0,x])):Sem Next).run P w=.ok (.value (.slice (some ⟨([w.heap.size,k]:List Nat).headD 0,0,none⟩) (nI us).length ((nI us).length+([w.heap.size,k]:List Nat).tail.headD 0))) w'/\Ew w w' (.cells ((kI.r us).toArray++J4 z.cells (([w.heap.size,k]:List Nat).tail.headD 0)) e (0,0)):=by
 rw [y9];exact BM (K:=kI) ht hi hs h0 hm hb
theorem appI_any {tx:Nw} (ht:P.underlying t=some (.slice e)) (hi:Ed P e 1 b z) {x:Ns} {ts us:List Nat} (hA:kI.A C ts c) (hs:Src P 1 tx x us.length (kI.r us) w) (hm:ts.length+us.length<=100000) (hb:b<=1000) (hg:w.heap[g]? = some (.cells C e (0,0))) :
 ∃ r w',(do pure (Jc (<- JU #[t,tx] ty #[.slice (some ⟨g,0,none⟩) (nI ts).length c,x])):Sem Next).run P w=.ok (.value (.slice (some ⟨r.n.headD 0,0,none⟩) (nI (ts++us)).length (r.n.tail.headD 0))) w'/\kI.A (uO r) (ts++us) (r.n.tail.headD 0)/\H8 w w' g (r.n.headD 0) (.cells (uO r) e (0,0)):=by
 rw [y9,y9];exact Cc (K:=kI) ht hi hA hs hm hb hg
end
end
section
section
variable {P:Nv} {t e:Nw} {w:Nu} {a:Option Addr} {c:Nat} {ns:List Nat}
theorem AA (ht:P.underlying t=some (.slice e)) {sz:Nat} (hs:∀ w,(sizeOf e).run P w=.ok sz w) {lo':Ns} (hm:m=n) (hh:lo'=.int .i64 (k:Int)) (hk:k<=n) (hc:n<=c) {r:Nat} (hr:n-k=r) :
 (do pure (Jc (<- Kw t (.slice a m c) (some lo') none none)):Sem Next).run P w=.ok (.value (.slice (if c=k then a else a.map (·.add (k*sz))) r (c-k))) w:=by
 subst hm hh hr
 have hs:=hs w
 have hb1:(MZ true m c (some (.int .i64 (k:Int))) none none).run P w=.ok (k,m,c) w:=by
  simp [MZ,Instr.sliceBound,asIntOf,hk]
 simp [Kw,Instr.slice,run_underlying ht,hs,hb1]
end
section
variable {α:Type} {sz:Nat} (K:oP α sz)
theorem oP.r_take:∀ (l:List α) (k:Nat),K.r (l.take k)=(K.r l).take (k*sz)
 | [],k=>by simp [oP.r]
 | x::r,0=>by simp [oP.r]
 | x :: r, k + 1 => by
   have hl:(K.f x).length=sz:=K.len x
   have h1:(K.f x).take ((k+1)*sz)=K.f x:=I9 (by rw [hl,Jg,J5];omega)
   have h2:(k+1)*sz-sz=k*sz:=by rw [Jg,J5];omega
   show K.f x++K.r (r.take k)=(K.f x++K.r r).take ((k+1)*sz)
   rw [List.take_append,hl,h1,h2,r_take r k]
theorem oP.r_drop:∀ (l:List α) (k:Nat),K.r (l.drop k)=(K.r l).drop (k*sz)
 | [],k=>by simp [oP.r]
 | x::r,0=>by simp [oP.r]
 | x :: r, k + 1 => by
   have hl:(K.f x).length=sz:=K.len x
   have h1:(K.f x).drop ((k+1)*sz)=[]:=KI (by rw [hl,Jg,J5];omega)
   have h2:(k+1)*sz-sz=k*sz:=by rw [Jg,J5];omega
   show K.r (r.drop k)=(K.f x++K.r r).drop ((k+1)*sz)
   rw [List.drop_append,hl,h1,h2,r_drop r k];rfl
end
section
variable {P:Nv} {ops:Array Oper} {D:List Nat} {l:List (Nat × Ns)} {w0:nN} {h:List (Nat × Obj)} {F0:Nu→Prop}
variable {vals:(Nat→bT)→Nat→Ns} {effs:(Nat→bT)→Nat→qJ} {fact:(Nat→bT)→Nat→Nu→Prop}
theorem o_callWB (i:Nat) (ns:List Nat) (f:Nz) (args:(Nat->bT)->Array Ns) (v:(Nat->bT)->OA->Nat->Ns) (xs:(Nat->bT)->LU) (K K':(Nat->bT)->List (Nat × Obj))
 (hf:∀ ρ T w,iM ops D w0 h F0 effs fact i ρ T w->bI (K ρ) w->Calls P f (args ρ) w (fun e w'=>∃ a c,e=.returned (v ρ a c)/\pG (fun b=>b∈(K ρ).map (·.1)) w w'/\bI (K' ρ) w'/\Fs w w' a c (xs ρ)))
 (hc:∀ ρ z,iG P ops D l (vals ρ) i z=some (.enter f (args ρ),[],[]):=by intros;kernel_rfl)
 (hv:∀ ρ r,vals (dU ρ i r) i=v ρ r.a (r.n.headD 0):=by intros;kernel_rfl) (he:∀ ρ r,effs (dU ρ i r) i={ puts:=ns.zip (K' ρ)}:=by intros;kernel_rfl)
 (hn:∀ ρ,fM ops D h (effs ρ) i ns=true:=by intros;kernel_rfl) (hk:∀ ρ,gG ops D h (effs ρ) i ns=K ρ:=by intros;kernel_rfl) (hl:∀ ρ,(K' ρ).map (·.1)=(K ρ).map (·.1):=by intros;kernel_rfl)
 (ht:∀ ρ r,fact (dU ρ i r) i=(fun w=>Fs w0.w w r.a (r.n.headD 0) (xs ρ)):=by intros;kernel_rfl):mW P ops D l w0 h F0 vals effs fact i:=by
 refine Ii i ns f args K (fun ρ _=>K' ρ) hc he hn hk (fun ρ _=>hl ρ) (fun ρ T w hG hK=>(hf ρ T w hG hK).mono (fun e w' hew=>?_))
 obtain ⟨a,c,h1,h2,h3,h4⟩:=hew
 refine ⟨h2,{ n:=[c],a:=a},?_,h3,?_⟩
 ·rw [hv];exact h1
 ·rw [ht];exact (h4.uC (fun b hb=>hb)).mono (fun _ hx=>hx.older hG.aS.size)
theorem qWB (ns:List Nat) {f:Nz} {args:(Nat->bT)->Array Ns} {v:(Nat->bT)->OA->Nat->Ns} {xs:(Nat->bT)->LU} {K K':(Nat->bT)->List (Nat × Obj)}
 (hf:∀ ρ T w,iM ops D w0 h F0 effs fact i ρ T w->bI (K ρ) w->Calls P f (args ρ) w (fun e w'=>∃ a c,e=.returned (v ρ a c)/\pG (fun b=>b∈(K ρ).map (·.1)) w w'/\bI (K' ρ) w'/\Fs w w' a c (xs ρ)))
 (hc:∀ ρ z,iG P ops D l (vals ρ) i z=some (.enter f (args ρ),[],[]):=by intros;kernel_rfl)
 (hv:∀ ρ r,vals (dU ρ i r) i=v ρ r.a (r.n.headD 0):=by intros;kernel_rfl) (he:∀ ρ r,effs (dU ρ i r) i={ puts:=ns.zip (K' ρ)}:=by intros;kernel_rfl)
 (hn:∀ ρ,fM ops D h (effs ρ) i ns=true:=by intros;kernel_rfl) (hk:∀ ρ,gG ops D h (effs ρ) i ns=K ρ:=by intros;kernel_rfl) (hl:∀ ρ,(K' ρ).map (·.1)=(K ρ).map (·.1):=by intros;kernel_rfl)
 (ht:∀ ρ r,fact (dU ρ i r) i=(fun w=>Fs w0.w w r.a (r.n.headD 0) (xs ρ)):=by intros;kernel_rfl):mW P ops D l w0 h F0 vals effs fact i:=o_callWB i ns f args v xs K K' hf hc hv he hn hk hl ht
end
end
section
def rowS (n:Nat) (pa:Nat->OA) (pc:Nat->Nat) (pB:Nat->LU):Array Ns:=((MQ n).map fun k=>Value.slice (pa k) (pB k).length (pc k)).toArray
theorem rowS_get {pa:Nat->OA} {pc:Nat->Nat} {pB:Nat->LU} (h:k<n):(rowS n pa pc pB)[k]? = some (.slice (pa k) (pB k).length (pc k)):=by
 simp [rowS,h]
def AllB (w:Nu) (n:Nat) (pa:Nat->OA) (pc:Nat->Nat) (pB:Nat->LU):Prop:=∀ k,k<n->Bs w (pa k) (pc k) (pB k)
theorem AllB.dW {pa:Nat->OA} {pc:Nat->Nat} {pB:Nat->LU} (h:AllB w n pa pc pB):bZ (fun _=>False) (fun w=>AllB w n pa pc pB) w:=by
 refine ⟨fun b=>b<w.heap.size,fun b hb=>⟨hb,id⟩,fun w' hw k hk=>?_⟩
 obtain ⟨S,s1,s2⟩:=(h k hk).dW
 exact s2 w' (fun b hb=>hw b (s1 b hb).1)
theorem allB2 {a0 a1:OA} {c0 c1:Nat} {B0 B1:LU} (h0:Bs w a0 c0 B0) (h1:Bs w a1 c1 B1):AllB w 2 (fun k=>[a0,a1].getD k none) (fun k=>[c0,c1].getD k 0) (fun k=>[B0,B1].getD k []):=by
 intro k hk
 rcases (by omega:k=0\/k=1) with rfl | rfl
 ·exact h0
 ·exact h1
theorem allB3 {a0 a1 a2:OA} {c0 c1 c2:Nat} {B0 B1 B2:LU} (h0:Bs w a0 c0 B0) (h1:Bs w a1 c1 B1) (h2:Bs w a2 c2 B2):AllB w 3 (fun k=>[a0,a1,a2].getD k none) (fun k=>[c0,c1,c2].getD k 0) (fun k=>[B0,B1,B2].getD k []):=by
 intro k hk
 rcases (by omega:k=0\/k=1\/k=2) with rfl | rfl | rfl
 ·exact h0
 ·exact h1
 ·exact h2
def Ib (pB:Nat->LU):Nat->LU
 | 0=>[]
 | k+1=>Ib pB k++pB k
theorem catB_le (pB:Nat->LU) (h:i<=n):(Ib pB i).length<=(Ib pB n).length:=by
 induction n with
 | zero=>rw [show i=0 by omega];exact IR _
 | succ n ih =>
   rcases (by omega:i<=n\/i=n+1) with e | e
   ·rw [Ib,II];have:=ih e;omega
   ·rw [e];exact IR _
theorem catB_next (pB:Nat->LU) (h:i<n):(Ib pB i).length+(pB i).length<=(Ib pB n).length:=by
 have:=catB_le pB (i:=i+1) (n:=n) h
 rw [Ib,II] at this
 exact this
section
variable {P:Nv} {t e:Nw}
theorem idx_rowS (ht:P.underlying t=some (.slice e)) (hs:∀ w,(sizeOf e).run P w=.ok 1 w) {k:Ny} {z:Int} (hz:z=(j:Int)) (hj:j<m) (w:Nu) :
 (do pure (Jc (<- Ku t (.slice (some ⟨g,0,none⟩) m c) (.int k z))):Sem Next).run P w=.ok (.value (.pointer (some ⟨g,j,none⟩))) w:=by
 subst hz
 have:=BC (P:=P) (t:=t) (elem:=e) (len:=m) (cap:=c) (s:=1) (g:=g) (off:=0) (k:=k) (n:=j) ht hs om om w
 simpa using this
theorem idx_rowN (ht:P.underlying t=some (.slice e)) {sz:Nat} (hs:∀ w,(sizeOf e).run P w=.ok sz w) {k:Ny} {z:Int} (hz:z=(j:Int)) (hj:j<m) (w:Nu) :
 (do pure (Jc (<- Ku t (.slice (some ⟨g,0,none⟩) m c) (.int k z))):Sem Next).run P w=.ok (.value (.pointer (some ⟨g,j*sz,none⟩))) w:=by
 subst hz
 have:=BC (P:=P) (t:=t) (elem:=e) (len:=m) (cap:=c) (s:=sz) (g:=g) (off:=0) (k:=k) (n:=j) ht hs om om w
 simpa using this
end
end
section
section
variable {P:Nv} {Q:Exit→Act→Nu→Prop} {n:Nat} {l:List (Nat × Ns)} {w0:nN} {h:List (Nat × Obj)} {F:Nu→Prop}
def Next1F {σ:Type} (n:Nat) (w0:nN) (F:σ->Nu->Prop) (L:σ->List (Nat × Ns)) (H:σ->List (Nat × Obj)) (m:σ->Nat) (R:σ->Prop) (k:Nat) (A:Act) (w:Nu):Prop:=∃ s,m s<k/\R s/\Fr n (L s) A/\St w0 (H s) (F s) w
theorem ok_loopF {σ:Type} {c:Code} (Fs:σ->Nu->Prop) (L:σ->List (Nat × Ns)) (H:σ->List (Nat × Obj)) (m:σ->Nat) (R:σ->Prop) (s0:σ) (hR:R s0) (hF:∀ w,F w->Fs s0 w) (hl:(L s0).map (fun x=>l.lookup x.1)=(L s0).map (fun x=>some x.2)) (hh:Kq (H s0) h)
 (round:∀ s,R s->Ok P c (Exit.then (Next1F n w0 Fs L H m R (m s)) Q) n (L s) w0 (H s) (Fs s)):Ok P (.loop c) Q n l w0 h F:=by
 intro A w hf hs
 refine wp_loop_ghost (fun k A w=>∃ s,m s=k/\R s/\Fr n (L s) A/\St w0 (H s) (Fs s) w) (m s0) ⟨s0,rfl,hR,hf.sub _ (Subl.get hl),(hs.dP hF).sub hh⟩ ?_
 rintro k A w ⟨s,rfl,h1,h2,h3⟩
 refine Code.wp_mono ?_ (round s h1 A w h2 h3)
 intro e A' w' hq
 cases e with
 | normal =>
   obtain ⟨s',q1,q2,q3,q4⟩:=hq
   exact ⟨m s',q1,s',rfl,q2,q3,q4⟩
 | _=>exact hq
theorem oLF {σ:Type} {c:Code} (Fs:σ->Nu->Prop) (L:σ->List (Nat × Ns)) (H:σ->List (Nat × Obj)) (m:σ->Nat) (R:σ->Prop) (s0:σ) (hR:R s0) (hF:∀ w,F w->Fs s0 w) (ks:List Nat)
 (round:∀ s,R s->Ok P c (Exit.then (Next1F n w0 Fs L H m R (m s)) Q) n (L s) w0 (H s) (Fs s))
 (hl:(L s0).map (fun x=>l.lookup x.1)=(L s0).map (fun x=>some x.2):=by kernel_rfl) (hh:uU ks h=H s0:=by kernel_rfl):Ok P (.loop c) Q n l w0 h F :=
 ok_loopF Fs L H m R s0 hR hF hl (hh ▸ nX ks h) round
theorem mNF {σ:Type} {Fs:σ->Nu->Prop} {L:σ->List (Nat × Ns)} {H:σ->List (Nat × Obj)} {m:σ->Nat} {R:σ->Prop} (s:σ) (hm:m s<k) (hR:R s) (hc:∀ w,St w0 h F w->St w0 (H s) (Fs s) w) (hl:(L s).map (fun x=>l.lookup x.1)=(L s).map (fun x=>some x.2):=by kernel_rfl) :
 mY (Exit.then (Next1F n w0 Fs L H m R k) Q .normal) n l w0 h F:=fun _ w hf hs=>⟨s,hm,hR,hf.sub _ (Subl.get hl),hc w hs⟩
end
theorem St.toFact {B:nN} {h h':List (Nat × Obj)} {F G:Nu->Prop} (hS:St B h F w) (hh:Kq h' h) (hG:bZ (fun b=>b∈h'.map (·.1)) G w):St B h' (fun w=>G w/\F w) w:=by
 have hs:=hS.sub hh
 exact ⟨hs.aS,hs.at_,hs.nodup,hG.and hs.facts⟩
end
variable {y:Code}
section
section
variable {P:Nv} {Q:Exit→Act→Nu→Prop} {n:Nat} {l:List (Nat × Ns)} {w0:nN} {h:List (Nat × Obj)} {F:Nu→Prop} {σ:Type}
def JoinP (P:Nv) (y:Code) (Q:Exit->Act->Nu->Prop) (n:Nat) (w0:nN) (L:σ->List (Nat × Ns)) (H:σ->List (Nat × Obj)) (Fs:σ->Nu->Prop) (R:σ->Prop):Prop:=∀ s,R s->Ok P y Q n (L s) w0 (H s) (Fs s)
variable (L:σ→List (Nat × Ns)) (H:σ→List (Nat × Obj)) (Fs:σ→Nu→Prop) (R:σ→Prop)
theorem Bd {a:Code} (hJ:∀ s,R s->Ok P y Q n (L s) w0 (H s) (Fs s)) (hx:JoinP P y Q n w0 L H Fs R->Ok P (.seq a y) Q n l w0 h F):Ok P (.seq a y) Q n l w0 h F:=hx hJ
theorem okJ2 {a b:Code} (hJ:∀ s,R s->Ok P y Q n (L s) w0 (H s) (Fs s)) (hx:JoinP P y Q n w0 L H Fs R->Ok P (.seq a (.seq b y)) Q n l w0 h F):Ok P (.seq a (.seq b y)) Q n l w0 h F:=hx hJ
variable {L H Fs R}
theorem yX (J:JoinP P y Q n w0 L H Fs R) (s:σ) (hR:R s) (hc:∀ w,St w0 h F w->St w0 (H s) (Fs s) w) (hl:(L s).map (fun x=>l.lookup x.1)=(L s).map (fun x=>some x.2):=by kernel_rfl):Ok P y Q n l w0 h F :=
 fun A w hf hs=>J s hR A w (hf.sub _ (Subl.get hl)) (hc w hs)
theorem CS (J:JoinP P y Q n w0 L H Fs R) (s:σ) (hR:R s) (hl:(L s).map (fun x=>l.lookup x.1)=(L s).map (fun x=>some x.2):=by kernel_rfl) (hh:h=H s:=by kernel_rfl) (hF:F=Fs s:=by kernel_rfl):Ok P y Q n l w0 h F:=by
 subst hh hF;exact yX J s hR (fun _ q=>q) hl
end
section
variable {B:nN} {w:Nu} {h:List (Nat × Obj)} {F:Nu→Prop} {g:Nat} {o:Obj}
theorem erase_nin:∀ {h:List (Nat × Obj)} {k:Nat},(h.map (·.1)).Nodup->h[k]? = some (g,o)->g ∉ (h.eraseIdx k).map (·.1)
 | [],_,_,hk=>by simp at hk
 | x :: r, 0, hn, hk => by
   obtain rfl:x=(g,o):=by simpa using hk
   rw [Kv,LZ] at hn
   exact hn.1
 | x :: r, k + 1, hn, hk => by
   rw [Kv,LZ] at hn
   have hk':r[k]? = some (g,o):=by simpa using hk
   rw [List.eraseIdx_cons_succ,Kv,JC,not_or]
   refine ⟨fun e=>hn.1 ?_,erase_nin hn.2 hk'⟩
   rw [<- e]
   exact Jk.2 ⟨_,J7 hk',rfl⟩
theorem St.froz (hS:St B h F w) (k:Nat) (hk:h[k]? = some (g,o)) (ks:List Nat) {h':List (Nat × Obj)} (hh:uU ks (h.eraseIdx k)=h') {G:Nu->Prop} (hG:B.w.heap.size<=w.heap.size->w.heap[g]? = some o->g ∉ h'.map (·.1)->bZ (fun b=>b∈h'.map (·.1)) G w):St B h' (fun w=>G w/\F w) w:=by
 have h1:Kq h' (h.eraseIdx k):=hh ▸ nX ks _
 have h2:=h1.trans (JX h k)
 refine hS.toFact h2 (hG hS.aS.size (hS.at_ _ (J7 hk)).2 ?_)
 exact fun hm=>erase_nin hS.nodup hk ((h1.map _).subset hm)
end
end
section
def kK:oP dB 45:=⟨fun p=>p.row.toList,dB.lQ,kp_one⟩
def kT:oP aX 36:=⟨fun t=>t.row.toList,aX.lQ,aX.row_one⟩
def zKp:Ns:=.agg (cU 0++cU 0++hB 0++ #[.int .i64 0,.int .u32 0,.int .u32 0,.slice none 0 0,.bool false])
theorem kK_r (ks:List dB):kK.r ks=kpR ks:=by simp only [oP.r,kpR,kK]
theorem kT_r (ts:List aX):kT.r ts=BJ ts:=by simp only [oP.r,BJ,kT]
theorem src_tn {P:Nv} {w:Nu} {g:Nat} {t:aX} {T tx:Nw} (hk:P.underlying tx=some (.slice e')) (hn:n=t.ks.length) (hb:w.heap[g]? = some (.cells (kJ t.kd t.m ((t.nu:Nat):Int) t.h (.slice t.ka n t.kc)) T fr)):Src P 36 tx (.slice (some ⟨g,0,none⟩) 1 1) [t].length (kT.r [t]) w:=by
 subst hn
 rw [kT_r]
 exact Dx hk hb
section
variable {P:Nv} {ops:Array Oper} {D:List Nat} {l:List (Nat × Ns)} {w0:nN} {h:List (Nat × Obj)} {F0:Nu→Prop}
variable {vals:(Nat→bT)→Nat→Ns} {effs:(Nat→bT)→Nat→qJ} {fact:(Nat→bT)→Nat→Nu→Prop}
theorem o_putS (i n:Nat) (s:(Nat->bT)->Sem Next) (g:(Nat->bT)->Nat) (ob ob':(Nat->bT)->Obj)
 (hr:∀ ρ T w,iM ops D w0 h F0 effs fact i ρ T w->w.heap[g ρ]? = some (ob ρ)->∃ w',(s ρ).run P w=.ok .skip w'/\DR w w' (g ρ) (ob' ρ))
 (hc:∀ ρ,zD ops (vals ρ) (vals (dU ρ i {}) i) (effs (dU ρ i {}) i) i=some (undef,{ puts:=[(n,g ρ,ob' ρ)]}):=by intros;kernel_rfl)
 (hn:∀ ρ,fM ops D h (effs ρ) i [n]=true:=by intros;kernel_rfl) (hk:∀ ρ,gG ops D h (effs ρ) i [n]=[(g ρ,ob ρ)]:=by intros;kernel_rfl)
 (hx:∀ ρ,execOp (eX ops D l (vals ρ) i) (iR ops i)=s ρ:=by intros;kernel_rfl) (ht:∀ ρ,fact ρ i=fun _=>True:=by intros;kernel_rfl):mW P ops D l w0 h F0 vals effs fact i:=by
 have key:∀ ρ,((ops[i]?).isSome=true/\nD (vals ρ) (iR ops i)=true)/\undef=vals (dU ρ i {}) i/\effs (dU ρ i {}) i={ puts:=[(n,g ρ,ob' ρ)]}:=by
  intro ρ
  have h1:=hc ρ
  unfold zD at h1
  split at h1
  ·rename_i hb
   simp only [Jb] at hb
   simp only [JB.injEq,Prod.mk.injEq] at h1
   exact ⟨hb,h1.1.symm,h1.2⟩
  ·exact absurd h1 (by simp)
 intro o ho ρ T w hG
 have hoe:=lN (key ρ).1.1
 rw [ho] at hoe
 obtain rfl:o=iR ops i:=by simpa using hoe
 rw [if_pos (key ρ).1.2]
 obtain ⟨w',hrun,hwr⟩:=hr ρ T w hG (hG.gG n (hn ρ) (hk ρ))
 unfold opv
 rw [hx ρ,hrun]
 have he:=(key ρ).2.2
 have hn0:=hn ρ
 unfold fM at hn0
 rw [Jb,I5] at hn0
 have hn1:=hn0.1 n (by simp)
 rw [Jb] at hn1
 obtain ⟨q,hb⟩:=LJ.1 hn1.1
 have hbg:yZ (effs ρ) ops.size (dep D i) n q=(g ρ,ob ρ):=by
  have:=hk ρ
  unfold gG at this
  simp only [Kv,List.map_nil,hb,List.cons.injEq,and_true] at this
  exact this
 refine ⟨{},(key ρ).2.1,?_,?_,?_,?_,by rw [ht];exact iD⟩
 ·refine ⟨hwr.os, hwr.tape, hwr.output, by rw [hwr.size]; exact IR _, fun k hk' hX => hwr.other k ?_⟩
  rintro rfl
  exact hX ⟨n,_,q,by rw [he];exact Ji,hb,by rw [hbg]⟩
 ·rw [he]
  intro n' o' hm
  simp only [IY,Prod.mk.injEq] at hm
  obtain ⟨rfl,rfl⟩:=hm
  refine ⟨hn1.2,q,hb,?_,Ju ?_⟩
  ·simpa using hwr.at_
  ·rw [hbg];simp
 ·rw [he];intro k b' q' hk';simp at hk'
 ·rw [he];simp
end
theorem st_agg {P:Nv} {t:Nw} {w:Nu} {g o:Nat} {T:Nw} {x:Ns} {us:List Ns} (hs:∀ w,(sizeOf t).run P w=.ok m w) (hx:x.cells.toList=us) (hm:us.length=m) (h1:us.all Value.oneCell'=true) (hfit:o+us.length<=C.size) (hb:w.heap[g]? = some (.cells C T (0,0))) :
 ∃ w',(do Instr.storeAt t (.pointer (some ⟨g,o,none⟩)) x;pure Next.skip:Sem Next).run P w=.ok .skip w'/\DR w w' g (.cells (lK C o us) T (0,0)):=by
 refine ⟨_,?_,BO hb⟩
 have hst:=run_storeCells_at P g o T us 0 C w hb om (fun v hv=>I5.1 h1 v hv)
 simp only [JS] at hst
 have hsz:x.cells.size=m:=by rw [<- Jy,hx,hm]
 simp only [Instr.storeAt,Lr,storeVar,KJ,KL,JJ,hs,hsz,hx]
 rw [if_neg (by simp),hst]
 rfl
theorem oP.A.setP {α:Type} [Inhabited α] {sz:Nat} {K:oP α sz} {l:List α} {us:List Ns} {x':α} (h:K.A C l c) (hj:j<l.length) (hu:us.length<=sz) (hx:K.f x'=us++(K.f (l.getD j default)).drop us.length):K.A (lK C (j*sz) us) (l.set j x') c:=by
 have hlen:(l.set j x').length=l.length:=List.length_set
 have hjs:(j+1)*sz<=l.length*sz:=Je _ hj
 have hjs':(j+1)*sz=j*sz+sz:=by rw [Jg,J5]
 have hrl:(K.r l).length=l.length*sz:=K.r_len l
 have hcz:l.length*sz<=C.size:=by rw [Av.size h];exact Je _ (Av.le h)
 have hr:K.r (l.set j x')=(K.r l).take (j*sz)++us++(K.r l).drop (j*sz+us.length):=by
  have e:(K.r l).drop (j*sz+us.length)=(K.f (l.getD j default)).drop us.length++K.r (l.drop (j+1)):=by
   have e1:(K.r l).drop (j*sz)=K.f (l.getD j default)++K.r (l.drop (j+1)):=by rw [<- K.r_drop,dropD hj];rfl
   rw [<- List.drop_drop,e1,KZ (by rw [K.len];exact hu)]
  rw [e,<- K.r_take,List.set_eq_take_append_cons_drop,if_pos hj,K.r_app]
  show K.r (l.take j)++(K.f x'++K.r (l.drop (j+1)))=_
  rw [hx]
  simp only [I8]
 have hhd:=Av.hd h
 have hfit:j*sz+us.length<=(K.r l).length:=by rw [hrl];omega
 refine ⟨?_,by rw [K.r_len],by rw [hlen];exact Av.le h,?_⟩
 ·have hle : (K.r (l.set j x')).length = (K.r l).length := by rw [K.r_len, hlen, hrl]
  rw [hle,hr]
  unfold lK
  rw [List.toList_toArray]
  have hX:(K.r l).length<=C.toList.length:=by rw [hrl,Jy];exact hcz
  have t1:(K.r l).take (j*sz)=C.toList.take (j*sz):=by
   rw [<- hhd,List.take_take,Kz (by rw [hrl];omega)]
  have t2:(K.r l).drop (j*sz+us.length)=(C.toList.drop (j*sz+us.length)).take ((K.r l).length-(j*sz+us.length)):=by
   conv=>lhs;rw [<- hhd]
   rw [List.drop_take]
  have l1:(C.toList.take (j*sz)).length=j*sz:=by rw [KR,Kz (by rw [Jy];omega)]
  have lA:(C.toList.take (j*sz)++us).length=j*sz+us.length:=by rw [II,l1]
  rw [t1,t2]
  exact List.take_append.trans (by rw [I9 (show (C.toList.take (j*sz)++us).length<=(K.r l).length by rw [lA];exact hfit),lA])
 ·exact (qR _ _ _ om).trans (Av.size h)
theorem oP.A.fit {α:Type} {sz:Nat} {K:oP α sz} {l:List α} (h:K.A C l c) (hj:j<l.length) (hk:k<=sz):j*sz+k<=C.size:=by
 have h1:(j+1)*sz<=c*sz:=Je _ (Jq hj (Av.le h))
 rw [Av.size h]
 have:(j+1)*sz=j*sz+sz:=by rw [Jg,J5]
 omega
def bY (w:Nu) (us:List aX):Prop:=∀ t∈us,wX w t.ka t.kc t.ks
theorem bY.nil {w:Nu}:bY w []:=fun t ht=>absurd ht (by simp)
section
variable {B:nN} {w:Nu} {h:List (Nat × Obj)} {F:Nu→Prop} {g:Nat}
theorem St.frozT (hS:St B h F w) (k:Nat) {us:List aX} (hA:kT.A C us c) (hm:us.length<=1000000) (hok:∀ t∈us,t.Ok) (hF:∀ w,F w->bY w us) (ks':List Nat) {h':List (Nat × Obj)}
 (hk:h[k]? = some (g,.cells C e fr):=by kernel_rfl) (hh:uU ks' (h.eraseIdx k)=h':=by kernel_rfl):St B h' (fun w=>iF w (some ⟨g,0,none⟩) c us/\F w) w:=by
 refine hS.froz k hk ks' hh (fun _ hg hn=>?_)
 have hsub:∀ b,b∈h'.map (·.1)->b∈h.map (·.1):=fun b hb=>((((hh ▸ nX ks' _:Kq h' (h.eraseIdx k)).trans (JX h k)).map _).subset hb)
 have hrow:Rs w (some ⟨g,0,none⟩) (BJ us):=by rw [<- kT_r];exact Rs.FU hg hA
 refine iF.mkP hA.le hm (hrow.uC (fun p hp _ hx=>by
  obtain rfl:(⟨g,0,none⟩:Addr)=p:=by simpa using hp
  exact hn hx)) (fun t ht=>(hS.facts.sub hsub).mono (fun w hw=>hF w hw t ht)) hok
end
theorem FO {x y:Int} (h:x=y):(x != y)=false:=by rw [h];exact bne_self_eq_false y
end
theorem iF.drop {a:OA} {ts:List aX} (h:iF w a c ts) (hk:k<=ts.length):iF w (if c=k then a else a.map (·.add (k*36))) (c-k) (ts.drop k):=by
 have hle:=h.le
 refine ⟨by rw [Jv];omega,by rw [Jv];have:=h.max;omega,?_,fun t ht=>h.sub t (La ht),fun t ht=>h.ok t (La ht)⟩
 by_cases hc:c=k
 ·have : ts.drop k = [] := JP (by rw [Jv]; omega)
  rw [this];exact Ju rfl
 ·rw [if_neg hc]
  have e:(ts.drop k).flatMap (fun t=>t.row.toList)=(ts.flatMap fun t=>t.row.toList).drop (k*36):=by
   have:=oP.r_drop kT ts k
   rw [kT_r,kT_r] at this
   exact this
  rw [e]
  exact h.rows.drop _
variable {S:LU}
def iY (n:Nat):Nat:=if n<10 then 48+n else 87+n
def hx2 (x:Nat):LU:=[ob ((iY (x / 16):Nat):Int),ob ((iY (x%16):Nat):Int)]
def kU (B:LU):LU:=B.flatMap fun x=>hx2 x.toNat
theorem bD (B:LU):(kU B).length=2*B.length:=by
 induction B with
 | nil=>rfl
 | cons x B ih=>rw [kU,JZ,II,<- kU,ih];simp [hx2];omega
theorem nP (hi:i<=B.length) (hX:X=kU (B.take i)):X.length=2*i:=by
 rw [hX,bD,KR];omega
theorem hx_next (h:i<B.length) (hX:X=kU (B.take i)):X++[ob ((iY (gB B i / 16):Nat):Int),ob ((iY (gB B i%16):Nat):Int)]=kU (B.take (i+1)):=by
 rw [take_snoc h,kU,JL,<- kU,hX]
 rfl
theorem hx_end (h:B.length<=i) (hX:X=kU (B.take i)):X=kU B:=by
 rw [hX,I9 h]
theorem gB_dig (h:j<16):gB [48,49,50,51,52,53,54,55,56,57,97,98,99,100,101,102] j=iY j:=by
 revert j
 decide
theorem hexD_lt (h:n<16):iY n<256:=by unfold iY;split<;>omega
theorem yV (h:n<16):0<=((iY n:Nat):Int)/\((iY n:Nat):Int)<256:=by have:=hexD_lt h;omega
theorem and15 (h:x<256):bits .and .u8 (x:Int) 15=((x%16:Nat):Int):=by
 have:=bits_andU (k:=.u8) rfl (a:=x) (b:=15) h dC
 refine this.trans ?_
 rw [show (15:Nat)=2^4-1 from rfl,KT]
def dg (c:Nat):Nat:=if 48<=c/\c<=57 then c-48 else if 97<=c/\c<=102 then c-87 else if 65<=c/\c<=70 then c-55 else 0
def AU (c:Nat):Bool:=decide (48<=c/\c<=57)||decide (97<=c/\c<=102)||decide (65<=c/\c<=70)
theorem bP (c:Nat):dg c<16:=by
 unfold dg
 split
 ·omega
 ·split
  ·omega
  ·split<;>omega
theorem D6 {v:Int} {b:Bool} (hv:v=((dg c:Nat):Int)) (hb:b=AU c):(.tuple #[.int .u8 v,.bool b]:Ns)=.tuple #[.int .u8 ((dg c:Nat):Int),.bool (AU c)]:=by rw [hv,hb]
theorem dg1 (h:48<=c/\c<=57):dg c=c-48/\AU c=true:=by
 unfold dg AU;rw [if_pos h];simp [h]
theorem dg2 (h1: ¬ (48<=c/\c<=57)) (h:97<=c/\c<=102):dg c=c-87/\AU c=true:=by
 unfold dg AU;rw [if_neg h1,if_pos h];simp [h]
theorem dg3 (h1: ¬ (48<=c/\c<=57)) (h2: ¬ (97<=c/\c<=102)) (h:65<=c/\c<=70):dg c=c-55/\AU c=true:=by
 unfold dg AU;rw [if_neg h1,if_neg h2,if_pos h];simp [h]
theorem dg0 (h1: ¬ (48<=c/\c<=57)) (h2: ¬ (97<=c/\c<=102)) (h: ¬ (65<=c/\c<=70)):dg c=0/\AU c=false:=by
 unfold dg AU;rw [if_neg h1,if_neg h2,if_neg h];simp [h1,h2,h]
def AQ (S:LU) (j:Nat):Nat:=16*dg (gB S (2*j))+dg (gB S (2*j+1))
theorem uh1_lt (S:LU) (j:Nat):AQ S j<256:=by
 unfold AQ;have:=bP (gB S (2*j));have:=bP (gB S (2*j+1));omega
def uhP (S:LU) (k:Nat):LU:=(MQ k).map fun j=>ob ((AQ S j:Nat):Int)
theorem aZ (S:LU) (k:Nat):(uhP S k).length=k:=by simp [uhP]
theorem uhP_succ (S:LU) (k:Nat):uhP S (k+1)=uhP S k++[ob ((AQ S k:Nat):Int)]:=by simp [uhP,List.range_succ]
def uhB (S:LU) (n:Nat):Bool:=(MQ n).all fun j=>AU (gB S j)
theorem uhB_get (h:uhB S n=true) (hi:i<n):AU (gB S i)=true:=by
 unfold uhB at h
 rw [I5] at h
 exact h i (Me.2 hi)
theorem uhB_of (h:∀ i,i<n->AU (gB S i)=true):uhB S n=true:=by
 unfold uhB
 rw [I5]
 exact fun i hi=>h i (Me.1 hi)
theorem uhB_not (hi:i<n) (h:AU (gB S i)=false):uhB S n=false:=by
 cases e:uhB S n
 ·rfl
 ·rw [uhB_get e hi] at h;exact absurd h dC
def uhR (S:LU):LU × Int :=
 if 400000<S.length then ([],4) else if S.length%2≠0 then ([],7) else if uhB S S.length then (uhP S (S.length / 2),0) else ([],7)
def BR (S:LU):LU:=(uhR S).1
def uhE (S:LU):Int:=(uhR S).2
theorem uh_x {e:Int} (h:uhR S=(xs,e)):xs=BR S:=by unfold BR;rw [h]
theorem uh_v {e:Int} {a:OA} (h:uhR S=(xs,e)):(.tuple #[.slice a xs.length c,.int .i64 e]:Ns)=.tuple #[.slice a (BR S).length c,.int .i64 (uhE S)]:=by
 unfold BR uhE;rw [h]
theorem uh4 (h:400000<S.length):uhR S=([],4):=if_pos h
theorem uh7 (h: ¬ 400000<S.length) (h1:S.length%2≠0):uhR S=([],7):=by rw [uhR,if_neg h,if_pos h1]
theorem uh7' (h: ¬ 400000<S.length) (h1:S.length%2=0) (h2:uhB S S.length=false):uhR S=([],7):=by rw [uhR,if_neg h,if_neg om,if_neg (by rw [h2];decide)]
theorem uh0 (h: ¬ 400000<S.length) (h1:S.length%2=0) (h2:uhB S S.length=true):uhR S=(uhP S (S.length / 2),0):=by rw [uhR,if_neg h,if_neg om,if_pos h2]
def un1 (S:LU) (i j:Nat):Nat:=if 2*j+1<i then AQ S j else if 2*j<i then dg (gB S (2*j)) else 0
def unL (S:LU) (i:Nat):LU:=(MQ (S.length / 2)).map fun j=>ob ((un1 S i j:Nat):Int)
theorem yA (S:LU) (i:Nat):(unL S i).length=S.length / 2:=by simp [unL]
def unC (S:LU) (i:Nat):Array Ns:=(bs (unL S i)).toArray
theorem Hr (S:LU) (i:Nat):(unC S i).size=S.length / 2:=by simp [unC,bs,yA]
theorem un1_lt (S:LU) (i j:Nat):un1 S i j<256:=by
 unfold un1
 split
 ·exact uh1_lt S j
 ·split
  ·have:=bP (gB S (2*j));omega
  ·omega
theorem unC_zero (S:LU):unC S 0=zB (S.length / 2):=by
 unfold unC zB
 congr 2
 apply List.ext_getElem
 ·simp [yA]
 ·intro n h1 h2
  simp [unL,un1,ob]
theorem unC_get (h:j<S.length / 2):(unC S i)[j]? = some (.int .u8 ((un1 S i j:Nat):Int)):=by
 unfold unC
 have hl:j<(bs (unL S i)).length:=by rw [iI,yA];exact h
 rw [List.getElem?_toArray,IX hl]
 simp only [bs,unL,List.getElem_map,MR]
 rw [bv_ob (by have:=un1_lt S i j;omega)]
def unV (S:LU) (i:Nat):Nat:=un1 S i (i / 2)*16+dg (gB S i)
theorem un_before (i:Nat):un1 S i (i / 2)<16:=by
 unfold un1
 rw [if_neg om]
 split
 ·exact bP _
 ·omega
theorem un_after (S:LU) (i:Nat):un1 S (i+1) (i / 2)=unV S i:=by
 unfold unV un1
 rcases Lt i with h | h
 ·rw [if_neg om,if_pos om,if_neg om,if_neg om,show 2*(i / 2)=i by omega];omega
 ·rw [if_pos om,if_neg om,if_pos om,AQ,show 2*(i / 2)+1=i by omega];omega
theorem un_other (S:LU) (h:j≠i / 2):un1 S (i+1) j=un1 S i j:=by
 unfold un1
 by_cases h1:2*j+1<i
 ·rw [if_pos om,if_pos h1]
 ·rw [if_neg om, if_neg h1]
  by_cases h2:2*j<i
  ·omega
  ·rw [if_neg om,if_neg h2]
theorem unC_set (_h:i / 2<S.length / 2):(unC S i).setIfInBounds (i / 2) (.int .u8 ((unV S i:Nat):Int))=unC S (i+1):=by
 apply ML
 intro j
 by_cases hj:j<S.length / 2
 ·rw [unC_get hj]
  by_cases e:j=i / 2
  ·subst e
   rw [Array.getElem?_setIfInBounds_self_of_lt (by rw [Hr];exact hj),un_after]
  ·rw [Array.getElem?_setIfInBounds_ne om,unC_get hj,un_other S e]
 ·rw [KE (by rw [Array.size_setIfInBounds,Hr];omega),KE (by rw [Hr];omega)]
theorem un_or (i:Nat):bits .or .u8 ((un1 S i (i / 2)*16:Nat):Int) ((dg (gB S i):Nat):Int)=((unV S i:Nat):Int):=by
 have h1:=un_before (S:=S) i
 have h2:=bP (gB S i)
 have h8:(2:Nat)^MN.bits=256:=rfl
 rw [CJ rfl om om]
 congr 1
 rw [unV,IJ,show (16:Nat)=2^4 from rfl,<- Jr h2]
theorem run_un4 {t:Nw} (S:LU) (i:Nat) (w:Nu):(binOp .shl t (.int .u8 ((un1 S i (i / 2):Nat):Int)) (.int .u64 4)).run P w=.ok (.int .u8 ((un1 S i (i / 2)*16:Nat):Int)) w :=
 Ae (k:=.u8) (yk:=.u64) (x:=un1 S i (i / 2)) (c:=4) rfl (by have:=un_before (S:=S) i;show _*16<256;omega) (fun _=>by decide) w
theorem un_end (h:S.length<=i) (h2:S.length%2=0):unL S i=uhP S (S.length / 2):=by
 unfold unL uhP
 apply List.map_congr_left
 intro j hj
 rw [Me] at hj
 rw [un1,if_pos om]
theorem Dk (h:∀ j,j<i->AU (gB S j)=true) (hi:AU (gB S i)=true):∀ j,j<i+1->AU (gB S j)=true:=fun j hj=>by
 rcases (by omega:j<i\/j=i) with e | e
 ·exact h j e
 ·rw [e];exact hi
theorem uh_ok (h: ¬ 400000<S.length) (h1:S.length%2=0) (hi:S.length<=i) (h2:∀ j,j<i->AU (gB S j)=true) (hx:xs=uhP S (S.length / 2)):uhR S=(xs,0):=by
 rw [hx];exact uh0 h h1 (uhB_of fun j hj=>h2 j om)
theorem BA (h: ¬ 400000<S.length) (h1:S.length%2=0) (hi:i<S.length) (h2:AU (gB S i)=false):uhR S=([],7):=uh7' h h1 (uhB_not hi h2)
theorem un_row:(IU (S.length / 2) (0:UInt8)).length=(unL S i).length:=by rw [KO,yA]
variable {k:Ky}
section
theorem add_str {P:Nv} {t:Nw} (X Y:LU) (h:X.length+Y.length<=9223372036854775807) (w:Nu):(binOp .add t (.string (dH X)) (.string (dH Y))).run P w=.ok (.string (dH (X++Y))) w:=by
 have hs:(dH X).size+(dH Y).size=X.length+Y.length:=rfl
 have e: ¬ ((((dH X).size+(dH Y).size:Nat):Int)>LD.max):=by
  rw [hs];show ¬ (_>9223372036854775807);omega
 have e2:dH X++dH Y=dH (X++Y):=rfl
 simp only [binOp,Op.stringOp,if_neg e]
 rfl
section
variable {P:Nv} {ops:Array Oper} {D:List Nat} {l:List (Nat × Ns)} {w0:nN} {h:List (Nat × Obj)} {F0:Nu→Prop}
variable {vals:(Nat→bT)→Nat→Ns} {effs:(Nat→bT)→Nat→qJ} {fact:(Nat→bT)→Nat→Nu→Prop}
theorem jC {m i:Nat} (X Y:LU) (ty:Nw) (hl:X.length+Y.length<=9223372036854775807) (t:fK m (mW P ops D l w0 h F0 vals effs fact) (i+1))
 (hc:∀ ρ,binChk ops D l (vals ρ) (vals (dU ρ i {}) i) (effs (dU ρ i {}) i) i=some (.add,ty,.string (dH X),.string (dH Y),.string (dH (X++Y)),{}):=by intros;kernel_rfl)
 (hg:∀ (_:Nat->bT) x y w,(eqGuard .add ty x y (.string (dH X)) (.string (dH Y))).run P w=.ok () w:=by intros;kernel_rfl) (hF:∀ ρ,fact ρ i=fun _=>True:=by intros;kernel_rfl):fK m (mW P ops D l w0 h F0 vals effs fact) i :=
 cB (a:=fun _=>.string (dH X)) (b:=fun _=>.string (dH Y)) (v:=fun _=>.string (dH (X++Y))) .add ty (fun _ w=>add_str X Y hl w) t hc hg hF
end
def dS (n:Nat):LU:=JK n
theorem fA (h:n<18446744073709551616):(dS n).length<=20:=by unfold dS;rw [MB];exact Lib.nDigits_le20 n h
def dgt (A j:Nat):Int:=48+((A / 10^j%10:Nat):Int)
theorem dgt_rng (A j:Nat):0<=dgt A j/\dgt A j<256:=by unfold dgt;omega
def dgL (A:Nat):Nat->LU
 | 0=>[]
 | j+1=>[ob (dgt A j)]++dgL A j
theorem dgL_length (A:Nat):∀ j,(dgL A j).length=j
 | 0=>rfl
 | j+1=>by rw [dgL,II,dgL_length A j];exact JQ _ _
theorem dgL_shift (A:Nat):∀ j,dgL A (j+1)=dgL (A / 10) j++[ob (dgt A 0)]
 | 0=>rfl
 | j + 1 => by
   rw [dgL,dgL_shift A j,dgL,I8]
   have:dgt A (j+1)=dgt (A / 10) j:=by unfold dgt;rw [IM,<- JV]
   rw [this]
theorem dgt_ob (A:Nat):ob (dgt A 0)=LG (48+A%10):=by
 unfold ob dgt
 rw [Nk]
 congr 1
theorem dgL_dS:∀ (j A:Nat),(j=0\/A / 10^j≠0)->A / 10^(j+1)=0->dgL A (j+1)=dS A
 | 0, A, _, h => by
   have hA:A<10:=om
   unfold dS
   rw [JK,dif_pos hA]
   show [ob (dgt A 0)]++[]=_
   rw [dgt_ob,IK hA];rfl
 | j + 1, A, h0, h => by
   have h0:A / 10^(j+1)≠0:=om
   have hA: ¬ A<10:=fun q=>h0 (by rw [IZ,IJ,<- IM,IP q,Nat.zero_div])
   have e1:A / 10 / 10^(j+1)=0:=by rw [IM,<- JV];exact h
   have e0:j=0\/A / 10 / 10^j≠0:=JW (by rw [IM,<- JV];exact h0)
   rw [dgL_shift,dgL_dS j (A / 10) e0 e1,dgt_ob]
   unfold dS
   conv=>rhs;rw [JK,dif_neg hA]
theorem dgL_end {A:Nat} (hj:j=0\/A / 10^j≠0) (he:A / 10^(j+1)=0):dgL A (j+1)=dS A:=dgL_dS j A hj he
theorem dgt_wrap {A:Nat} (ha:a=A / 10^j):MN.wrap (I7.wrap (48+wd (rZ 0 a 10) 0))=dgt A j:=by
 unfold rZ dgt
 rw [if_neg dC,KD,wd0,IntKind.wrap_u8,KP]
 omega
theorem H6 {A:Nat} (ha:a=A / 10^j):wY 0 a 10=A / 10^(j+1):=by
 subst ha
 unfold wY
 rw [if_neg dC,KD,JR,IM,IZ]
theorem dgt_few {A:Nat} (hA:A<M) (h: ¬ A / 10^(j+1)=0):j+1<78:=by
 refine Nat.lt_of_not_le (fun hl=>h ?_)
 apply IP
 exact Ja (J8 hA (by decide)) (IW dC hl)
def sgT (i:Nat):LU:=if 2147483648<=i then ([47]++dS (i-2147483648))++[104] else [47]++dS i
def EO (l:List Nat):LU:=l.flatMap sgT
def kpT (k:Ky) (ps:List Nat) (wd:Bool):LU:=(kU (uG k)++EO ps)++(if wd=true then [47,42] else [])
def dB.tx (p:dB):LU:=kpT p.k p.ps p.wd
theorem sgT_len {i:Nat} (h:i<4294967296):(sgT i).length<=22:=by
 unfold sgT;split
 ·have := fA (n := i - 2147483648) om
  simp only [II,JO,Lh];omega
 ·have := fA (n := i) om
  simp;omega
theorem paT_len:∀ l:List Nat,(∀ x∈l,x<4294967296)->(EO l).length<=22*l.length
 | [],_=>Nat.zero_le _
 | x :: r, h => by
   have h1:=sgT_len (h x (Ji ..))
   have h2:=paT_len r (fun y hy=>h y (Jj _ hy))
   show (sgT x++EO r).length<=_
   rw [II,JO];omega
theorem paT_next {l:List Nat} {i:Nat} (h:i<l.length):EO (l.take (i+1))=EO (l.take i)++sgT (l.getD i 0):=by
 rw [KN h]
 unfold EO
 rw [JL,Jh,IX h]
 simp
theorem kpT_len {wd:Bool} (h:∀ x∈ps,x<4294967296) (h8:ps.length<=8):(kpT k ps wd).length<=400:=by
 have:=paT_len ps h
 unfold kpT
 rw [II,II,bD,zQ]
 split<;>simp<;>omega
theorem txU {x:Nat} (h:x<4294967296):I7.wrap (x:Int)=(x:Int):=by rw [KP];omega
theorem txS {x:Nat} (h:x<4294967296) (h1:decide ((2147483648:Int)<=(x:Int))=true):J6.wrap ((x:Int)-2147483648)=((x-2147483648:Nat):Int):=by
 have:=of_decide_eq_true h1
 rw [KU];omega
theorem txG {l:List Nat} (h:∀ x∈l,x<4294967296) (i:Nat):l.getD i 0<4294967296:=EE h dC i
theorem sg_h {x:Nat} (h:decide ((2147483648:Int)<=(x:Int))=true):([47]++dS (x-2147483648))++[104]=sgT x:=by
 have:=of_decide_eq_true h
 unfold sgT;rw [if_pos om]
theorem sg_n {x:Nat} (h:decide ((2147483648:Int)<=(x:Int))=false):[47]++dS x=sgT x:=by
 have:=of_decide_eq_false h
 unfold sgT;rw [if_neg om]
section
variable {X E:List UInt8} {l:List Nat} {i:Nat}
theorem tx_next {Y:LU} (h:i<l.length) (hX:X=E++EO (l.take i)) (e:Y=sgT (l.getD i 0)):X++Y=E++EO (l.take (i+1)):=by
 rw [hX,e,paT_next h,I8]
theorem tx_rh (h:i<l.length) (hX:X=E++EO (l.take i)) (hd:decide ((2147483648:Int)<=((l.getD i 0:Nat):Int))=true):((X++[47])++dS (l.getD i 0-2147483648))++[104]=E++EO (l.take (i+1)):=by
 rw [I8,I8];exact tx_next h hX (by rw [<- sg_h hd,I8])
theorem tx_rn (h:i<l.length) (hX:X=E++EO (l.take i)) (hd:decide ((2147483648:Int)<=((l.getD i 0:Nat):Int))=false):(X++[47])++dS (l.getD i 0)=E++EO (l.take (i+1)):=by
 rw [I8];exact tx_next h hX (sg_n hd)
end
theorem y8 {X:LU} {l:List Nat} {i:Nat} (hX:X=kU (uG k)++EO (l.take i)) (h:∀ x∈l,x<4294967296):X.length<=148+22*l.length:=by
 have h1:=paT_len (l.take i) (fun x hx=>h x (Lc hx))
 have h2:=MC i l
 rw [hX,II,bD,zQ];omega
theorem tx_w1 {X:LU} {l:List Nat} {i:Nat} {wd:Bool} (hi:l.length<=i) (hX:X=kU (uG k)++EO (l.take i)) (h:wd=true):X++[47,42]=kpT k l wd:=by
 unfold kpT;rw [if_pos h,hX,I9 hi]
theorem tx_w0 {X:LU} {l:List Nat} {i:Nat} {wd:Bool} (hi:l.length<=i) (hX:X=kU (uG k)++EO (l.take i)) (h:wd=false):X=kpT k l wd:=by
 unfold kpT;rw [h,if_neg dC,hX,I9 hi,Ld]
def vZ (ks:List dB):LU:=ks.flatMap fun p=>[44]++p.tx
def lL (p:dB):LU:=([107,101,121,40]++p.tx)++[41]
def lM (m:Int) (ks:List dB):LU:=(([109,117,108,116,105,40]++dS m.toNat)++vZ ks)++[41]
def arT (kd:Int) (nu h:Nat):LU:=if kd=3 then [97,102,116,101,114,40]++dS nu else if kd=4 then [111,108,100,101,114,40]++dS nu else [104,97,115,104,40]++kU (hL h)
def slT (kd:Int) (nu h:Nat) (x:LU):LU:=((arT kd nu h++[44])++x)++[41]
def eiT (x y:LU):LU:=((([101,105,116,104,101,114,40]++x)++[44])++y)++[41]
structure Tq where
 ta:OA
 tc:Nat
 ts:List aX
def Tq.fst (s:Tq):aX:=gT s.ts 0
def Tq.go (s:Tq):Tq:=⟨if s.tc=1 then s.ta else s.ta.map (·.add (1*36)),s.tc-1,s.ts.tail⟩
def FwP (t:aX):Prop:=(t.kd=1->t.ks.length=1)/\(t.kd=2->1<=t.ks.length/\t.ks.length<=20000/\0<=t.m/\t.m<4294967296)/\(t.kd≠1->t.kd≠2->t.ks.length=0)
instance instDecFwP (t:aX):Decidable (FwP t):=by unfold FwP;exact inferInstance
def aX.fw (t:aX):Bool:=decide (FwP t)
theorem C9 {t:aX} (h:t.fw=true):FwP t:=of_decide_eq_true h
theorem fd_fw {t:aX} (h:t.fd=true):t.fw=true:=by
 have hF:=(xK _ _ _ _ _).1 h
 refine decide_eq_true ⟨hF.2.2.2.1,fun hk=>?_,hF.2.2.2.2.2⟩
 have:=hF.2.2.2.2.1 hk
 omega
theorem fds_fws {ts:List aX} (h:ts.all aX.fd=true):ts.all aX.fw=true:=I5.2 (fun t ht=>fd_fw (I5.1 h t ht))
def bx : Nat -> Tq -> Option (LU × Tq)
 | 0,_=>none
 | f + 1, s => if s.ts.length = 0 \/ s.fst.fw = false then none else
   if s.fst.kd=1 then some (lL (gK s.fst.ks 0),s.go) else
   if s.fst.kd=2 then some (lM s.fst.m s.fst.ks,s.go) else
   match bx f s.go with
   | none=>none
   | some (a, s1) =>
     if s.fst.kd=6 then (match bx f s1 with
      | none=>none
      | some (b,s2)=>some (eiT a b,s2))
     else if 3<=s.fst.kd/\s.fst.kd<=5 then some (slT s.fst.kd s.fst.nu s.fst.h a,s1) else none
theorem bx_ok : ∀ (f : Nat) (k : Int) (s : Tq), s.ts.length <= f -> 1 <= k -> zC k s.ts = true -> s.ts.all aX.fw = true ->
 ∃ b s',bx f s=some (b,s')/\zC (k-1) s'.ts=true/\s'.ts.all aX.fw=true/\s'.ts.length<s.ts.length
 | 0, k, s, hl, hk, hw, _ => by
   rw [JP (Nat.le_zero.1 hl)] at hw
   have:=of_decide_eq_true (hw)
   omega
 | f + 1, k, s, hl, hk, hw, hf => by
   cases e:s.ts with
   | nil =>
     rw [e] at hw
     have:=of_decide_eq_true (hw)
     omega
   | cons t r =>
     rw [e] at hw hf hl
     have hk0: ¬ (k=0\/lU t.kd<0):=fun q=>by simp only [zC,if_pos q] at hw;exact absurd hw dC
     simp [zC,if_neg hk0] at hw
     rw [List.all_cons,Jb] at hf
     have hft:s.fst=t:=by unfold Tq.fst;rw [e];rfl
     have hgo:s.go.ts=r:=by show s.ts.tail=r;rw [e];rfl
     have hc: ¬ (s.ts.length=0\/t.fw=false):=by rw [e,hf.1];simp
     have hlr:=by simpa using hl
     unfold bx
     rw [hft,if_neg hc]
     by_cases c1:t.kd=1
     ·rw [if_pos c1]
      rw [show lU t.kd=0 by rw [c1];rfl] at hw
      exact ⟨_,_,rfl,by grind,by grind,by grind⟩
     rw [if_neg c1]
     by_cases c2:t.kd=2
     ·rw [if_pos c2]
      rw [show lU t.kd=0 by rw [c2];rfl] at hw
      exact ⟨_,_,rfl,by grind,by grind,by grind⟩
     rw [if_neg c2]
     by_cases c6:t.kd=6
     ·rw [show lU t.kd = 2 by rw [c6]; rfl] at hw
      obtain ⟨a,s1,h1,w1,f1,l1⟩:=bx_ok f (k+(2-1)) s.go (by grind) om (by grind) (by grind)
      rw [hgo] at l1
      obtain ⟨b,s2,h2,w2,f2,l2⟩:=bx_ok f (k+(2-1)-1) s1 om om w1 f1
      rw [h1]
      simp only [if_pos c6]
      rw [h2]
      exact ⟨_,_,rfl,by grind,f2,by grind⟩
     have c345:=by
      have:=fun q=>hk0 (JW q)
      unfold lU at this
      by_cases q:t.kd=3\/t.kd=4\/t.kd=5
      ·exact q
      ·rw [if_neg om,if_neg q,if_neg c6] at this;exact absurd dC this
     rw [show lU t.kd=1 by unfold lU;rw [if_neg om,if_pos c345]] at hw
     obtain ⟨a,s1,h1,w1,f1,l1⟩:=bx_ok f k s.go (by grind) hk (by grind) (by grind)
     rw [hgo] at l1
     rw [h1]
     simp only [if_neg c6,if_pos (show 3<=t.kd/\t.kd<=5 by omega)]
     exact ⟨_,_,rfl,w1,f1,by grind⟩
theorem bx_sim:∀ (f:Nat) (s t:Tq),s.ts=t.ts->(bx f s=none/\bx f t=none)\/∃ b s' t',bx f s=some (b,s')/\bx f t=some (b,t')/\s'.ts=t'.ts
 | 0,_,_,_=>Ju ⟨rfl,rfl⟩
 | f + 1, s, t, h => by
   have hg:=congrArg List.tail h
   have hf:s.fst=t.fst:=congrArg (fun x=>gT x 0) h
   unfold bx
   rw [h,hf]
   by_cases c0:t.ts.length=0\/t.fst.fw=false
   ·rw [if_pos c0,if_pos c0];exact Ju ⟨rfl,rfl⟩
   rw [if_neg c0,if_neg c0]
   by_cases c1:t.fst.kd=1
   ·rw [if_pos c1,if_pos c1];exact JW ⟨_,_,_,rfl,rfl,hg⟩
   rw [if_neg c1,if_neg c1]
   by_cases c2:t.fst.kd=2
   ·rw [if_pos c2,if_pos c2];exact JW ⟨_,_,_,rfl,rfl,hg⟩
   rw [if_neg c2,if_neg c2]
   rcases bx_sim f s.go t.go hg with ⟨ha,hb⟩ | ⟨b,s',t',ha,hb,h'⟩
   ·rw [ha,hb];exact Ju ⟨rfl,rfl⟩
   rw [ha,hb]
   by_cases c6:t.fst.kd=6
   ·simp only [if_pos c6]
    rcases bx_sim f s' t' h' with ⟨ha,hb⟩ | ⟨b2,s2,t2,ha,hb,h2⟩
    ·rw [ha,hb];exact Ju ⟨rfl,rfl⟩
    ·rw [ha,hb];exact JW ⟨_,_,_,rfl,rfl,h2⟩
   ·simp only [if_neg c6]
    by_cases c3:3<=t.fst.kd/\t.fst.kd<=5
    ·simp only [if_pos c3];exact JW ⟨_,_,_,rfl,rfl,h'⟩
    ·simp only [if_neg c3];exact Ju (by simp)
def uB (ts:List aX):LU:=((bx 8 ⟨none,0,ts⟩).map (·.1)).getD []
theorem bx_goW {ts:List aX} (hl:ts.length<=8) (hw:zC 1 ts=true) (hf:ts.all aX.fw=true) (a:OA) (c:Nat):∃ s',bx 8 ⟨a,c,ts⟩=some (uB ts,s'):=by
 obtain ⟨x,s',hx,_⟩:=bx_ok 8 1 ⟨a,c,ts⟩ hl dC hw hf
 rcases bx_sim 8 ⟨a,c,ts⟩ ⟨none,0,ts⟩ rfl with ⟨ha,_⟩ | ⟨y,s2,t2,ha,hb,_⟩
 ·rw [hx] at ha;exact absurd ha (by simp)
 ·refine ⟨s2, ?_⟩
  rw [ha]
  unfold uB
  rw [hb];rfl
theorem bx_go {ts:List aX} (h:xJ ts=true) (a:OA) (c:Nat):∃ s',bx 8 ⟨a,c,ts⟩=some (uB ts,s'):=by
 obtain ⟨hl,hw,hf,_⟩:=Gh h
 exact bx_goW hl.2 hw (fds_fws hf) a c
structure TqL (s s':Tq):Prop where
 t:∀ w,iF w s.ta s.tc s.ts->iF w s'.ta s'.tc s'.ts
 m:∀ x∈s'.ts,x∈s.ts
theorem TqL.go {s:Tq} (h:0<s.ts.length):TqL s s.go:=⟨fun _ hw=>hw.tail h,fun _ hx=>KY hx⟩
theorem TqL.trans {a b c:Tq} (h:TqL a b) (k:TqL b c):TqL a c:=⟨fun w x=>k.t w (h.t w x),fun x hx=>h.m x (k.m x hx)⟩
theorem EX : ∀ (f : Nat) (s : Tq) (b : LU) (s' : Tq), bx f s = some (b, s') -> TqL s s'
 | f + 1, s, b, s', h => by
   unfold bx at h
   split at h
   ·exact absurd h (by simp)
   have hg:TqL s s.go:=TqL.go om
   split at h
   ·simp at h;rw [<- h.2];exact hg
   split at h
   ·simp at h;rw [<- h.2];exact hg
   split at h
   ·exact absurd h (by simp)
   rename_i a s1 e1
   have h1:=hg.trans (EX f _ _ _ e1)
   split at h
   ·split at h
    ·exact absurd h (by simp)
    ·rename_i b2 s2 e2
     simp at h;rw [<- h.2];exact h1.trans (EX f _ _ _ e2)
   ·split at h
    ·simp at h;rw [<- h.2];exact h1
    ·exact absurd h (by simp)
def TxS (ts:List aX):Prop:=∀ t∈ts,∀ p∈t.ks,p.tx.length<=500000
theorem ksT_len:∀ ks:List dB,(∀ p∈ks,p.tx.length<=500000)->(vZ ks).length<=500001*ks.length
 | [],_=>Nat.zero_le _
 | x :: r, h => by
   have h1:=h x (Ji ..)
   have h2:=ksT_len r (fun y hy=>h y (Jj _ hy))
   show (([44]++x.tx)++vZ r).length<=_
   simp;omega
theorem ksT_next {l:List dB} {i:Nat} (h:i<l.length):vZ (l.take (i+1))=vZ (l.take i)++([44]++(gK l i).tx):=by
 rw [KN h]
 unfold vZ gK
 rw [JL,Jh,IX h]
 simp
theorem arT_len {kd:Int} {nu h:Nat} (hn:nu<4294967296):(arT kd nu h).length<=100:=by
 have:=fA (n:=nu) om
 unfold arT
 split
 ·simp;omega
 split
 ·simp;omega
 ·simp only [II,JO,Lh,bD,aT];omega
theorem bx_len : ∀ (f : Nat) (s : Tq) (b : LU) (s' : Tq), TxS s.ts -> qZ s.ts -> bx f s = some (b, s') -> b.length + 1000 <= 20000000000 * 2 ^ f
 | f + 1, s, b, s', hq, ho, h => by
   have h1:20000000000<=20000000000*2^f:=Nat.le_mul_of_pos_right _ (Nat.two_pow_pos f)
   unfold bx at h
   split at h
   ·exact absurd h (by simp)
   rename_i hc
   have h0:0<s.ts.length:=om
   have hfd:s.fst.fw=true:=by grind
   have hF:=C9 hfd
   have hm:s.fst∈s.ts:=fH h0
   have hg:=TqL.go h0
   split at h
   ·rename_i hk
    have hks:0<s.fst.ks.length:=by have:=hF.1 hk;omega
    have:=hq _ hm _ (mO hks)
    simp at h;rw [<- h.1]
    unfold lL;simp;omega
   split at h
   ·rename_i hk
    have h2:=hF.2.1 hk
    have:=ksT_len s.fst.ks (hq _ hm)
    have h3:=fA (n:=s.fst.m.toNat) om
    simp at h;rw [<- h.1]
    unfold lM;simp;omega
   split at h
   ·exact absurd h (by simp)
   rename_i a s1 e1
   have ha:=bx_len f _ _ _ (fun t ht=>hq t (hg.m t ht)) (fun t ht=>ho t (hg.m t ht)) e1
   have l1:=hg.trans (EX f _ _ _ e1)
   split at h
   ·split at h
    ·exact absurd h (by simp)
    ·rename_i b2 s2 e2
     have hb:=bx_len f _ _ _ (fun t ht=>hq t (l1.m t ht)) (fun t ht=>ho t (l1.m t ht)) e2
     simp at h;rw [<- h.1]
     unfold eiT;simp;omega
   ·split at h
    ·have := arT_len (kd := s.fst.kd) (h := s.fst.h) (ho _ hm).1.nu
     simp at h;rw [<- h.1]
     unfold slT;simp;omega
    ·exact absurd h (by simp)
def sG (kd:Int):LU:=if kd=1 then [107,101,121] else if kd=2 then [109,117,108,116,105] else if kd=3 then [97,102,116,101,114] else if kd=4 then [111,108,100,101,114] else if kd=5 then [104,97,115,104] else [101,105,116,104,101,114]
theorem iV (kd:Int):3<=(sG kd).length/\(sG kd).length<=6:=by
 unfold sG
 repeat' split
 all_goals decide
section
variable {kd m:Int} {nu h i:Nat} {x y S:List UInt8} {ks:List dB} {p:dB}
theorem kb1 (k:kd=1):((sG kd++[40])++([]++p.tx))++[41]=lL p:=by subst k;rfl
theorem kb2 (k:kd=2) (hi:ks.length<=i) (hS:S=((sG kd++[40])++([]++dS m.toNat))++vZ (ks.take i)):S++[41]=lM m ks:=by
 subst k;rw [hS,I9 hi];rfl
theorem kb_n (h:i<ks.length) {E:LU} (hS:S=E++vZ (ks.take i)):S++([44]++(gK ks i).tx)=E++vZ (ks.take (i+1)):=by rw [hS,ksT_next h,I8]
theorem kb_r (h:i<ks.length) {E:LU} (hS:S=E++vZ (ks.take i)):(S++[44])++(gK ks i).tx=E++vZ (ks.take (i+1)):=by rw [I8];exact kb_n h hS
theorem kb_e (hi:ks.length<=i) (hS:S=([109,117,108,116,105,40]++dS m.toNat)++vZ (ks.take i)):S++[41]=lM m ks:=by
 rw [hS,I9 hi];rfl
theorem kb_len {E:LU} (hS:S=E++vZ (ks.take i)) (hq:∀ p∈ks,p.tx.length<=500000):S.length<=E.length+500001*ks.length:=by
 have h1:=ksT_len (ks.take i) (fun p hp=>hq p (Lc hp))
 have h2:=MC i ks
 rw [hS,II];omega
theorem kb_ge {E:LU} (hS:S=E++vZ (ks.take i)):E.length<=S.length:=by grind
theorem sl3 (k:kd=3):(((sG kd++[40])++([]++dS nu))++([44]++x))++[41]=slT kd nu h x:=by
 subst k;unfold slT arT sG;simp
theorem sl4 (k:kd=4):(((sG kd++[40])++([]++dS nu))++([44]++x))++[41]=slT kd nu h x:=by
 subst k;unfold slT arT sG;simp
theorem sl5 (k:kd=5):(((sG kd++[40])++([]++kU (hL h)))++([44]++x))++[41]=slT kd nu h x:=by
 subst k;unfold slT arT sG;simp
theorem kb6 (k:kd=6):(((sG kd++[40])++([]++x))++([44]++y))++[41]=eiT x y:=by
 subst k;unfold eiT sG;simp
theorem rl3 (k:kd=3):((([97,102,116,101,114,40]++dS nu)++[44])++x)++[41]=slT kd nu h x:=by subst k;rfl
theorem rl4 (k:kd=4):((([111,108,100,101,114,40]++dS nu)++[44])++x)++[41]=slT kd nu h x:=by subst k;rfl
theorem rl5 (k:kd=5):((([104,97,115,104,40]++kU (hL h))++[44])++x)++[41]=slT kd nu h x:=by subst k;rfl
end
theorem Ie {ts:List aX} (hv:xJ ts=true) (ho:qZ ts):TxS ts/\(uB ts).length<=5200000000000:=by
 have hq:TxS ts:=fun t ht p hp=>by
  have h8:=by
   obtain ⟨_,_,_,hk⟩:=Gh hv
   have h1:=I5.1 hk t ht
   have h2:=I5.1 h1 p hp
   unfold dB.vp at h2
   simp at h2
   exact h2.1
  exact Jq (kpT_len ((ho t ht).2 p hp).ps h8) dC
 refine ⟨hq,?_⟩
 obtain ⟨s',h⟩:=bx_go hv none 0
 have:=bx_len 8 _ _ _ hq ho h
 omega
theorem tm_hash (kd m nu:Int) (h:Nat) (x:Ns) (j:Nat) (hj:j<32):(kJ kd m nu h x)[3+j]? = (hB h)[j]? := by
 unfold kJ
 rw [Array.getElem?_append_left (by simp [vY];omega),Array.getElem?_append_right (by simp),show 3+j-(#[LM .i64 kd,.int .i64 m,.int .u32 nu]).size=j by simp]
theorem Bs.of_term {t:aX} {T:Nw} (hb:w.heap[g]? = some (.cells t.row T fr)):Bs w (some ⟨g,3,none⟩) 32 (hL t.h):=by
 refine ⟨by exact IR _,by rw [aT];decide,JW ⟨_,rfl,fun j v hv=>?_⟩⟩
 have hj:=by
  have:=(Jl.1 hv).1
  rw [iI] at this;exact this
 have h1:=by
  have hh:=DK t.h
  rw [<- hh,List.getElem?_take,if_pos om] at hv
  simpa using hv
 rw [show (⟨g,3,none⟩:Addr).add j=⟨g,3+j,none⟩ by simp [Addr.add]]
 unfold Nl
 simp [*]
 rw [<- h1,<- tm_hash t.kd t.m ((t.nu):Int) t.h (.slice t.ka t.ks.length t.kc) j hj]
 simp [aX.row]
theorem txM {m:Int} (h:0<=m/\m<4294967296):J6.wrap m=((m.toNat:Nat):Int):=by rw [KU];omega
end
section
section
variable {P:Nv} {t:Nw} {k:Ny} {S:List UInt8} {z:Int} {n:Nat}
theorem xI (ht:P.underlying t=some .string) (hz:z=(n:Int)) (hn:n<=S.length) (w:Nu) :
 (do pure (Jc (<- Kw t (.string (dH S)) none (some (.int k z)) none)):Sem Next).run P w=.ok (.value (.string (dH (S.take n)))) w:=by
 subst hz
 have h:=run_slice_string_h (P:=P) (t:=t) (s:=dH S) (w:=w) ht k (n:Int) om (by show (n:Int)<=((dH S).size:Int);exact Int.ofNat_le.2 hn)
 have e:(dH S).extract 0 (n:Int).toNat=dH (S.take n):=by
  apply Nq
  rw [LV]
  simp [dH]
 rw [e] at h
 simp only [Kw,KJ,run_underlying ht,JJ,h,KL]
theorem Ci (ht:P.underlying t=some .string) (hz:z=(n:Int)) (hn:n<=S.length) (w:Nu) :
 (do pure (Jc (<- Kw t (.string (dH S)) (some (.int k z)) none none)):Sem Next).run P w=.ok (.value (.string (dH (S.drop n)))) w:=by
 subst hz
 have h:=run_slice_string_l (P:=P) (t:=t) (s:=dH S) (w:=w) ht k (n:Int) om (by show (n:Int)<=((dH S).size:Int);exact Int.ofNat_le.2 hn)
 have e:(dH S).extract (n:Int).toNat (dH S).size=dH (S.drop n):=by
  apply Nq
  rw [LV]
  have:(dH S).size=S.length:=rfl
  rw [this]
  show (S.toArray.extract n S.length)=(S.drop n).toArray
  rw [List.extract_toArray,List.extract_eq_take_drop,I9 (by rw [Jv];exact IR _)]
 rw [e] at h
 simp only [Kw,KJ,run_underlying ht,JJ,h,KL]
end
theorem pre_yes (W R:LU):ND (W++R) W=true/\NC (W++R) W=R:=by
 have h:ND (W++R) W=true:=by simp [ND]
 exact ⟨h,by simp [NC,h]⟩
def Dv (b:UInt8):Bool:=decide (48<=b.toNat)&&decide (b.toNat<=57)
def Ar:LU->Nat
 | []=>0
 | b::r=>if Dv b=true then Ar r+1 else 0
theorem Eh (b:UInt8):Dv b=true↔48<=b.toNat/\b.toNat<=57:=by unfold Dv;rw [Jb,decide_eq_true_eq,decide_eq_true_eq]
section
variable {L:List UInt8} {i:Nat}
theorem dgN_at (h:i<L.length):Ar (L.drop i)=if Dv (L.getD i 0)=true then Ar (L.drop (i+1))+1 else 0:=by
 rw [Lu h,Ar,Jh,IX h];rfl
theorem dgN_next (h:i<L.length) (h1:decide ((48:Int)<=((gB L i:Nat):Int))=true) (h2:decide (((gB L i:Nat):Int)<=57)=true) (hr:Ar (L.drop i)+i=Ar L):Ar (L.drop (i+1))+(i+1)=Ar L:=by
 have a:=of_decide_eq_true h1
 have b:=of_decide_eq_true h2
 unfold gB at a b
 rw [dgN_at h,if_pos ((Eh _).2 ⟨by omega,by omega⟩)] at hr
 omega
theorem dgN_e0 (h:L.length<=i) (hr:Ar (L.drop i)+i=Ar L):i=Ar L:=by
 rw [Jz h,Ar] at hr;omega
theorem dgN_eA (h:i<L.length) (h1:decide ((48:Int)<=((gB L i:Nat):Int))=false) (hr:Ar (L.drop i)+i=Ar L):i=Ar L:=by
 have a:=of_decide_eq_false h1
 unfold gB at a
 rw [dgN_at h,if_neg (fun q=>by have:=(Eh _).1 q;omega)] at hr
 omega
theorem dgN_eB (h:i<L.length) (h1:decide (((gB L i:Nat):Int)<=57)=false) (hr:Ar (L.drop i)+i=Ar L):i=Ar L:=by
 have a:=of_decide_eq_false h1
 unfold gB at a
 rw [dgN_at h,if_neg (fun q=>by have:=(Eh _).1 q;omega)] at hr
 omega
end
theorem dgN_app:∀ (D R:LU),(∀ b∈D,Dv b=true)->(∀ b,R.head? = some b->Dv b=false)->Ar (D++R)=D.length
 | [],[],_,_=>rfl
 | [], b :: R, _, h => by
   show Ar (b::R)=0
   rw [Ar,h b rfl];rfl
 | b :: D, R, h1, h2 => by
   show Ar (b::(D++R))=_
   rw [Ar,if_pos (h1 b (Ji ..)),dgN_app D R (fun x hx=>h1 x (Jj _ hx)) h2];rfl
theorem txW (h:x<=2^32-1):J6.wrap (x:Int)=(x:Int):=by rw [KU];omega
theorem puM_snoc {N d : Nat} {c : UInt8} (hc : 48 <= c.toNat /\ c.toNat <= 57) (hd : c.toNat - 48 = d) : ∀ (D : LU) (acc u : Nat), Jp N acc D = .ok u -> u < 1844674407370955162 -> u * 10 + d <= N -> Jp N acc (D ++ [c]) = .ok (u * 10 + d)
 | [], acc, u, h, h1, h2 => by
   rw [Jp] at h
   injection h with h
   subst h
   show Jp N acc [c]=_
   rw [Jp,if_pos hc,if_neg om,hd,if_neg om,Jp]
 | b :: D, acc, u, h, h1, h2 => by
   rw [Jp] at h
   show Jp N acc (b::(D++[c]))=_
   rw [Jp]
   split at h
   ·rename_i a
    rw [if_pos a]
    split at h
    ·exact absurd h (by simp)
    ·rename_i a2
     rw [if_neg a2]
     split at h
     ·exact absurd h (by simp)
     ·rename_i a3
      rw [if_neg a3]
      exact puM_snoc hc hd D _ u h h1 h2
   ·exact absurd h (by simp)
theorem puM_dS (N:Nat) (hN:N<18446744073709551616):∀ n,n<=N->Jp N 0 (dS n)=.ok n
 | n, h => by
   have hc:48<=(LG (48+n%10)).toNat/\(LG (48+n%10)).toNat<=57:=by
    rw [JE];omega
   have hd:(LG (48+n%10)).toNat-48=n%10:=by
    rw [JE];omega
   unfold dS
   by_cases h9:n<10
   ·rw [JK, dif_pos h9]
    have:=puM_snoc (N:=N) (d:=n) (c:=LG (48+n)) (by rw [JE];omega) (by rw [JE];omega) [] 0 0 (by rw [Jp]) dC om
    simpa using this
   ·rw [JK, dif_neg h9]
    have ih:=puM_dS N hN (n / 10) om
    have:=puM_snoc hc hd (JK (n / 10)) 0 (n / 10) ih om om
    rw [this]
    congr 1
    omega
theorem dS_ne (n:Nat):dS n≠[]:=fun h=>by
 have:=MB n
 unfold dS at h
 rw [h] at this
 have h1:1<=Lib.nDigits n:=by
  by_cases q:n<10
  ·rw [Lib.nDigits_small q];exact IR _
  ·rw [Lib.nDigits_big q];omega
 simp at this
 omega
theorem pu_dS {n:Nat} (h:n<4294967296):Jt 32 (dS n)=.ok n:=by
 unfold Jt
 rw [if_neg (dS_ne n)]
 exact puM_dS _ dC n om
theorem dS_dig:∀ n,∀ b∈dS n,Dv b=true
 | n, b, h => by
   unfold dS at h
   by_cases h9:n<10
   ·rw [JK, dif_pos h9] at h
    rw [IY.1 h,Eh,JE];omega
   ·rw [JK, dif_neg h9] at h
    rcases Jw.1 h with q | q
    ·exact dS_dig (n / 10) b q
    ·rw [IY.1 q,Eh,JE];omega
theorem num_at {n:Nat} {R:LU} (hR:∀ b,R.head? = some b->Dv b=false):(dS n++R).take (Ar (dS n++R))=dS n/\(dS n++R).drop (Ar (dS n++R))=R:=by
 rw [dgN_app _ _ (dS_dig n) hR]
 exact ⟨List.take_left' rfl,List.drop_left' rfl⟩
end
theorem dg_hexD (h:x<16):dg (iY x)=x/\AU (iY x)=true:=by
 revert x
 decide
theorem gB_cons (x:UInt8) (B:LU) (i:Nat):gB (x::B) (i+1)=gB B i:=rfl
theorem gB_hx (B:LU):∀ j,j<B.length->gB (kU B) (2*j)=iY (gB B j / 16)/\gB (kU B) (2*j+1)=iY (gB B j%16):=by
 induction B with
 | nil=>intro j h;simp at h
 | cons x B ih =>
   have hx:=UInt8.toNat_lt x
   have e:kU (x::B)=ob ((iY (x.toNat / 16):Nat):Int)::ob ((iY (x.toNat%16):Nat):Int)::kU B:=rfl
   intro j h
   cases j with
   | zero=>exact ⟨ob_lt (hexD_lt om),ob_lt (hexD_lt om)⟩
   | succ j =>
     have:=ih j (by simpa using h)
     rw [e,gB_cons]
     exact this
theorem hx_digits (B:LU):∀ i,i<2*B.length->AU (gB (kU B) i)=true:=by
 intro i hi
 have h:=gB_hx B (i / 2) om
 have h256:=gV B (i / 2)
 rcases Lt i with e | e
 ·rw [show i=2*(i / 2) by omega,h.1];exact (dg_hexD om).2
 ·rw [show i=2*(i / 2)+1 by omega,h.2];exact (dg_hexD om).2
theorem hx_bytes (B:LU):uhP (kU B) B.length=B:=by
 apply List.ext_getElem
 ·rw [aZ]
 ·intro j h1 h2
  have h:=gB_hx B j h2
  have h256:=gV B j
  simp only [uhP,List.getElem_map,MR]
  rw [AQ,h.1,h.2,(dg_hexD om).1,(dg_hexD om).1,show 16*(gB B j / 16)+gB B j%16=gB B j by omega,gB_ob]
  simp [List.getD,IX h2]
theorem hx_back (h:B.length<=200000):uhR (kU B)=(B,0):=by
 have hl:=bD B
 refine uh_ok (i:=(kU B).length) om om (IR _) (fun j hj=>hx_digits B j om) ?_
 rw [hl,show 2*B.length / 2=B.length by omega,hx_bytes]
theorem hx_back_x (h:B.length<=200000):BR (kU B)=B:=(uh_x (hx_back h)).symm
theorem hx_back_e (h:B.length<=200000):uhE (kU B)=0:=by unfold uhE;rw [hx_back h]
section
def uD (L:LU):Bool:=match Jt 32 (L.take (Ar L)) with
 | .ok _=>true
 | _=>false
def fP (L:LU):Nat:=match Jt 32 (L.take (Ar L)) with
 | .ok u=>u
 | _=>0
def dO (L:LU):LU:=if uD L=true then L.drop (Ar L) else L
theorem num_t {L:LU} (h:uD L=true):Jt 32 (L.take (Ar L))=.ok (fP L):=by
 unfold uD at h
 unfold fP
 cases e:Jt 32 (L.take (Ar L))<;>rw [e] at h<;>simp_all
theorem num_f {L:LU} (h:uD L=false):∀ u,Jt 32 (L.take (Ar L))≠.ok u:=fun u e=>by
 unfold uD at h
 rw [e] at h
 exact Bool.noConfusion h
theorem numV_f {L:LU} (h:uD L=false):fP L=0:=by
 unfold fP
 cases e:Jt 32 (L.take (Ar L)) with
 | ok u=>exact absurd e (num_f h u)
 | _=>rfl
theorem numV_lt (L:LU):fP L<4294967296:=by
 cases h:uD L with
 | false=>rw [numV_f h];decide
 | true=>have:=Lib.parseUintB_le (num_t h);omega
theorem numL_t {L:LU} (h:uD L=true):dO L=L.drop (Ar L):=by unfold dO;rw [if_pos h]
theorem lT (L:LU):(dO L).length<=L.length:=by
 unfold dO;split
 ·rw [Jv];omega
 ·exact IR _
theorem dY (L W:LU):(NC L W).length<=L.length:=by
 unfold NC;split
 ·rw [Jv];omega
 ·exact IR _
theorem qH {L:LU} {b:UInt8} {W:LU} (h:ND L (b::W)=true):(NC L (b::W)).length+(W.length+1)=L.length:=by
 unfold NC
 rw [if_pos h,Jv]
 unfold ND at h
 have h1:=List.IsPrefix.length_le (List.isPrefixOf_iff_prefix.1 h)
 rw [JO] at h1
 rw [JO];omega
theorem trim_no {L W:LU} (h:ND L W=false):NC L W=L:=by unfold NC;rw [h];rfl
def lF (n:Nat) (L:LU):LU:=if 2*n<=L.length then BR (L.take (2*n)) else []
def rbO (n:Nat) (L:LU):Bool:=if 2*n<=L.length then uhE (L.take (2*n))==0 else false
def wL (n:Nat) (L:LU):LU:=if 2*n<=L.length then L.drop (2*n) else L
theorem yO (n:Nat) (L:LU):(wL n L).length<=L.length:=by
 unfold wL;split
 ·rw [Jv];omega
 ·exact IR _
theorem rb_t {L:LU} (h:2*n<=L.length):lF n L=BR (L.take (2*n))/\rbO n L=(uhE (L.take (2*n))==0)/\wL n L=L.drop (2*n):=by
 unfold lF rbO wL;rw [if_pos h,if_pos h,if_pos h];exact ⟨rfl,rfl,rfl⟩
theorem rb_f {L:LU} (h: ¬ 2*n<=L.length):lF n L=[]/\rbO n L=false/\wL n L=L:=by
 unfold lF rbO wL;rw [if_neg h,if_neg h,if_neg h];exact ⟨rfl,rfl,rfl⟩
def sN (k:Int):LU:=if k=1 then [107,101,121]++[40] else if k=2 then [109,117,108,116,105]++[40] else if k=3 then [97,102,116,101,114]++[40] else if k=4 then [111,108,100,101,114]++[40] else if k=5 then [104,97,115,104]++[40] else [101,105,116,104,101,114]++[40]
def eG (L:LU):Int:=if ND L (sN 1)=true then 1 else if ND L (sN 2)=true then 2 else if ND L (sN 3)=true then 3 else if ND L (sN 4)=true then 4 else if ND L (sN 5)=true then 5 else if ND L (sN 6)=true then 6 else 0
def aN (L:LU):LU:=if eG L=0 then L else NC L (sN (eG L))
theorem lH (L:LU):0<=eG L/\eG L<=6:=by
 unfold eG
 repeat' split
 all_goals decide
theorem gU (L:LU):(aN L).length<=L.length:=by
 unfold aN;split
 ·exact IR _
 ·exact dY _ _
section
variable {L:List UInt8}
theorem kdI_0 (h1:ND L (sN 1)=false) (h2:ND L (sN 2)=false) (h3:ND L (sN 3)=false) (h4:ND L (sN 4)=false) (h5:ND L (sN 5)=false) (h6:ND L (sN 6)=false):eG L=0/\aN L=L:=by
 have e:eG L=0:=by unfold eG;rw [h1,h2,h3,h4,h5,h6];rfl
 exact ⟨e,by unfold aN;rw [if_pos e]⟩
theorem kdI_1 (h1:ND L (sN 1)=true):eG L=1/\aN L=NC L (sN 1):=by
 have e:eG L=1:=by unfold eG;rw [h1];rfl
 exact ⟨e,by unfold aN;rw [e,if_neg dC]⟩
theorem DJ (h1:ND L (sN 1)=false) (h2:ND L (sN 2)=true):eG L=2/\aN L=NC L (sN 2):=by
 have e:eG L=2:=by unfold eG;rw [h1,h2];rfl
 exact ⟨e,by unfold aN;rw [e,if_neg dC]⟩
theorem kdI_3 (h1:ND L (sN 1)=false) (h2:ND L (sN 2)=false) (h3:ND L (sN 3)=true):eG L=3/\aN L=NC L (sN 3):=by
 have e:eG L=3:=by unfold eG;rw [h1,h2,h3];rfl
 exact ⟨e,by unfold aN;rw [e,if_neg dC]⟩
theorem kdI_4 (h1:ND L (sN 1)=false) (h2:ND L (sN 2)=false) (h3:ND L (sN 3)=false) (h4:ND L (sN 4)=true):eG L=4/\aN L=NC L (sN 4):=by
 have e:eG L=4:=by unfold eG;rw [h1,h2,h3,h4];rfl
 exact ⟨e,by unfold aN;rw [e,if_neg dC]⟩
theorem kdI_5 (h1:ND L (sN 1)=false) (h2:ND L (sN 2)=false) (h3:ND L (sN 3)=false) (h4:ND L (sN 4)=false) (h5:ND L (sN 5)=true):eG L=5/\aN L=NC L (sN 5):=by
 have e:eG L=5:=by unfold eG;rw [h1,h2,h3,h4,h5];rfl
 exact ⟨e,by unfold aN;rw [e,if_neg dC]⟩
theorem kdI_6 (h1:ND L (sN 1)=false) (h2:ND L (sN 2)=false) (h3:ND L (sN 3)=false) (h4:ND L (sN 4)=false) (h5:ND L (sN 5)=false) (h6:ND L (sN 6)=true):eG L=6/\aN L=NC L (sN 6):=by
 have e:eG L=6:=by unfold eG;rw [h1,h2,h3,h4,h5,h6];rfl
 exact ⟨e,by unfold aN;rw [e,if_neg dC]⟩
end
structure Pth where
 o:Bool
 s:List Nat
 w:Bool
 l:LU
def AX : Nat -> List Nat -> LU -> Pth
 | 0,_,L=>⟨false,[],false,L⟩
 | f + 1, a, L =>
   if ND L [47]=false then ⟨true,a,false,L⟩ else
   if ND (NC L [47]) [42]=true then ⟨true,a,true,NC (NC L [47]) [42]⟩ else
   if uD (NC L [47])=false then ⟨false,[],false,NC L [47]⟩ else
   if 2147483648<=fP (NC L [47]) then ⟨false,[],false,dO (NC L [47])⟩ else
   if ND (dO (NC L [47])) [104]=true then AX f (a++[fP (NC L [47])+2147483648]) (NC (dO (NC L [47])) [104]) else
   AX f (a++[fP (NC L [47])]) (dO (NC L [47]))
def iQ (L:LU):Pth :=
 if rbO 74 L=false then ⟨false,[],false,wL 74 L⟩ else
 if Ba (lF 74 L)≠0 then ⟨false,[],false,wL 74 L⟩ else AX ((wL 74 L).length+1) [] (wL 74 L)
def oV (L:LU):Ky:=if (iQ L).o=true then iP (lF 74 L) else Ky.z
def GL (L:LU):dB:=⟨oV L,(iQ L).s,(iQ L).w,none,0⟩
structure Rks where
 o:Bool
 ks:List dB
 l:LU
def ksR : Nat -> List dB -> LU -> Rks
 | 0,a,L=>⟨false,a,L⟩
 | f + 1, a, L =>
   if ND L [44]=false then ⟨true,a,L⟩ else
   if (iQ (NC L [44])).o=false then ⟨false,a++[GL (NC L [44])],(iQ (NC L [44])).l⟩ else
   ksR f (a++[GL (NC L [44])]) (iQ (NC L [44])).l
structure Rhd where
 o:Bool
 t:aX
 l:LU
def tz (kd m:Int) (nu h:Nat) (ks:List dB):aX:=⟨kd,m,nu,h,ks,none,0⟩
def zV (k : Int) (L : LU) : Rhd :=
 if k=1 then ⟨(iQ L).o,tz k 0 0 0 [GL L],(iQ L).l⟩ else
 if k = 2 then
  (if uD L=false then ⟨false,tz k 0 0 0 [],L⟩ else
   if ND (dO L) [44]=false then ⟨false,tz k (fP L) 0 0 [],dO L⟩ else
   if (iQ (NC (dO L) [44])).o=false then ⟨false,tz k (fP L) 0 0 [GL (NC (dO L) [44])],(iQ (NC (dO L) [44])).l⟩ else
   (fun y:Rks=>⟨y.o,tz k (fP L) 0 0 y.ks,y.l⟩) (ksR ((iQ (NC (dO L) [44])).l.length+1) [GL (NC (dO L) [44])] (iQ (NC (dO L) [44])).l)) else
 if k=3\/k=4 then (if uD L=false then ⟨false,tz k 0 0 0 [],L⟩ else ⟨ND (dO L) [44],tz k 0 (fP L) 0 [],NC (dO L) [44]⟩) else
 if k=5 then (if rbO 32 L=false then ⟨false,tz k 0 0 0 [],wL 32 L⟩ else ⟨ND (wL 32 L) [44],tz k 0 0 (nB ((lF 32 L).take 32)) [],NC (wL 32 L) [44]⟩) else
 ⟨true,tz k 0 0 0 [],L⟩
structure Rtm where
 o:Bool
 ts:List aX
 l:LU
def rcl (x:Rtm):Rtm:=if x.o=false then x else ⟨ND x.l [41],x.ts,NC x.l [41]⟩
def eF : Nat -> List aX -> LU -> Rtm
 | 0,a,L=>⟨false,a,L⟩
 | f + 1, a, L =>
   if eG L=0 then ⟨false,a,L⟩ else
   if a.length=8 then ⟨false,a,aN L⟩ else
   (fun x:Rhd =>
    if x.o=false then ⟨false,a,x.l⟩ else
    if eG L=1\/eG L=2 then rcl ⟨true,a++[x.t],x.l⟩ else
    if eG L=6 then
     (fun y:Rtm=>if y.o=false then y else if ND y.l [44]=false then ⟨false,y.ts,y.l⟩ else rcl (eF f y.ts (NC y.l [44]))) (eF f (a++[x.t]) x.l)
    else rcl (eF f (a++[x.t]) x.l)) (zV (eG L) (aN L))
end
section
open Go Go.Shelf Go.Proofs Go.RowKit
def ErC (w:Nu) (g:Nat):Prop:=∃ ev,w.cell? ⟨g,0,none⟩=some ev/\(ev=.nilIface\/∃ te pe,ev=.iface te pe)
def uS (w:Nu):Prop:=ErC w 3/\ErC w 4
theorem ErC.dW (h:ErC w g):bZ (fun _=>False) (fun w=>ErC w g) w:=by
 obtain ⟨ev,h1,h2⟩:=h
 have hlt:g<w.heap.size:=Lib.lt_of_cell h1
 refine ⟨fun b=>b=g,fun b hb=>⟨by rw [hb];exact hlt,id⟩,fun w' hw=>⟨ev,?_,h2⟩⟩
 rw [<- h1]
 unfold Nl
 simp only [hw g rfl]
theorem uS.dW (h:uS w):bZ (fun _=>False) (fun w=>uS w) w:=(h.1.dW.and h.2.dW).mono (fun _ k=>k)
theorem neq_ifc {t:Nw} {ms:Array (String × Nw)} (ht:P.underlying t=some (.interface ms)) (T:Nw) (p:OA) (w:Nu):(binOp .neq t (.iface T (.pointer p)) .nilIface).run P w=.ok (.bool true) w:=by
 have h:∀ d:Nat,(Op.equalIn (d+2) t (.iface T (.pointer p)) .nilIface).run P w=.ok false w:=fun d=>by simp [Op.equalIn,run_underlying ht]
 simp only [binOp]
 simp [Op.equal,Op.maxDepth,h 9998]
theorem Gv (S:LU) (h:∀ u,Jt 32 S≠.ok u) (hl:S.length<=1000000000) (w:Nu) (hE:uS w):Calls prog 82 #[.string (dH S),.int .i64 10,.int .i64 32] w (fun ε w'=>∃ α κ,ε=.returned (.tuple #[.int .u64 ((κ:Nat):Int),.iface 172 (.pointer α)])/\Below w.heap.size w w'/\Fs w w' α κ []):=by
 cases e:Jt 32 S with
 | ok u=>exact absurd e (h u)
 | range =>
   obtain ⟨ev,h1,h2⟩:=hE.2
   exact (Any.strconv_ParseUint_10_at32_range laysPu14 (dH S) (by show S.length<=_;omega) e ev w h1 h2).mono fun ε w' ⟨N,q1,_,_,q4⟩=>⟨some ⟨N,0,none⟩,4294967295,q1,q4,Fs.nil⟩
 | _ =>
   obtain ⟨ev,h1,h2⟩:=hE.1
   exact (Any.strconv_ParseUint_10_at32_syntax laysPu14 (dH S) (by show S.length<=_;omega) e ev w h1 h2).mono fun ε w' ⟨N,q1,_,_,q4⟩=>⟨some ⟨N,0,none⟩,0,q1,q4,Fs.nil⟩
end
section
section
variable {P:Nv} {ops:Array Oper} {D:List Nat} {l:List (Nat × Ns)} {w0:nN} {h:List (Nat × Obj)} {F0:Nu→Prop}
variable {vals:(Nat→bT)→Nat→Ns} {effs:(Nat→bT)→Nat→qJ} {fact:(Nat→bT)→Nat→Nu→Prop}
theorem o_callGX (i:Nat) (ns:List Nat) (f:Nz) (args:(Nat->bT)->Array Ns) (K:(Nat->bT)->List (Nat × Obj)) (K' N:(Nat->bT)->bT->List (Nat × Obj))
 (hc:∀ ρ z,iG P ops D l (vals ρ) i z=some (.enter f (args ρ),[],[]))
 (he:∀ ρ r,effs (dU ρ i r) i={ news:=N ρ r,puts:=ns.zip (K' ρ r)})
 (hn:∀ ρ,fM ops D h (effs ρ) i ns=true) (hk:∀ ρ,gG ops D h (effs ρ) i ns=K ρ) (hl:∀ ρ r,(K' ρ r).length=(K ρ).length)
 (hf:∀ ρ T w,iM ops D w0 h F0 effs fact i ρ T w->bI (K ρ) w->(∀ x∈K ρ,T x.1)->Calls P f (args ρ) w (fun e w'=>pG (fun b=>b∈(K ρ).map (·.1)) w w'/\∃ r,e=.returned (vals (dU ρ i r) i)/\bI (K' ρ r) w' /\
  (∀ (j:Nat) (x y:Nat × Obj),(K ρ)[j]? = some x->(K' ρ r)[j]? = some y->y.1=x.1\/(w.heap.size<=y.1/\(∀ (j':Nat) (y':Nat × Obj),(K' ρ r)[j']? = some y'->j'=j\/y'.1<w.heap.size)/\N ρ r=[])) /\
  (∀ (k b:Nat) (o:Obj),(N ρ r)[k]? = some (b,o)->w.heap.size<=b/\w'.heap[b]? = some o)/\((N ρ r).map (·.1)).Nodup /\
  bZ (fun b=>T b\/b∈(N ρ r).map (·.1)\/b∈(K' ρ r).map (·.1)) (fact (dU ρ i r) i) w')):mW P ops D l w0 h F0 vals effs fact i:=by
 have key:∀ ρ z,((ops[i]?).isSome=true/\nD (vals ρ) (iR ops i)=true)/\uN P (execOp (eX ops D l (vals ρ) i) (iR ops i)) [] [] z=some (.enter f (args ρ),[],[]):=by
  intro ρ z
  have h1:=hc ρ z
  unfold iG at h1
  split at h1
  ·rename_i hb
   simp only [Jb] at hb
   exact ⟨hb,h1⟩
  ·exact absurd h1 (by simp)
 intro o ho ρ T w hG
 have hoe:=lN (key ρ []).1.1
 rw [ho] at hoe
 obtain rfl:o=iR ops i:=by grind
 rw [if_pos (key ρ []).1.2]
 obtain ⟨w1,h1,_,_,h4,_,_⟩:=uK (P:=P) (execOp (eX ops D l (vals ρ) i) (iR ops i)) [] [] w _ _ _ (by intro y hy;simp at hy) (by simp) ((key ρ _).2) trivial
 have hb:Below w.heap.size w w1:=⟨h4.os,h4.tape,h4.output,h4.size,fun k hk=>h4.block k hk (by simp)⟩
 have hheap:= fun b hb'=>hb.block b hb'
 have hG1:iM ops D w0 h F0 effs fact i ρ T w1:=by
  have tr:∀ {F:Nu->Prop},bZ T F w->bZ T F w1:=by
   rintro F ⟨S,s1,s2⟩
   refine ⟨S,fun b hb'=>⟨Ja (s1 b hb').1 hb.size,(s1 b hb').2⟩,fun w' hw=>s2 w' (fun b hb'=>?_)⟩
   rw [hw b hb',hheap b (s1 b hb').1]
  refine ⟨fun b hb'=>Ja (hG.lt b hb') hb.size,hG.aS.trans (pG.vU hb),fun n x hn hk=>?_,hG.ne,tr hG.iE,fun j hj=>tr (hG.facts j hj)⟩
  have:=hG.block n x hn hk
  refine ⟨?_,this.2⟩
  rw [hheap _ (hG.lt _ this.2.1)]
  exact this.1
 have hno:=hn ρ
 unfold fM at hno
 rw [Jb,I5,decide_eq_true_eq] at hno
 obtain ⟨hno,hnd⟩:=hno
 have hbn:∀ n∈ns,∃ x,AY h (effs ρ) n=some x/\okN ops D h (effs ρ) i n=true:=by
  intro n hm
  have:=hno n hm
  rw [Jb] at this
  obtain ⟨x,hb⟩:=LJ.1 this.1
  exact ⟨x,hb,this.2⟩
 have hKk:∀ (j n:Nat),ns[j]? = some n->∃ x,AY h (effs ρ) n=some x/\okN ops D h (effs ρ) i n=true/\(K ρ)[j]? = some (yZ (effs ρ) ops.size (dep D i) n x):=by
  intro j n hj
  obtain ⟨x,hx,hok⟩:=hbn n (J7 hj)
  refine ⟨x,hx,hok,?_⟩
  rw [<- hk ρ]
  unfold gG
  rw [JI,hj]
  simp [*]
 have hKT:∀ y∈K ρ,w1.heap[y.1]? = some y.2/\T y.1:=by
  intro y hy
  rw [<- hk ρ] at hy
  obtain ⟨n,hm,rfl⟩:=Jk.1 hy
  obtain ⟨x,hx,hok⟩:=hbn n hm
  rw [hx]
  exact ⟨(hG1.block n x hx hok).1,(hG1.block n x hx hok).2.1⟩
 unfold opv
 rw [h1]
 refine (hf ρ T w1 hG1 (fun y hy=>(hKT y hy).1) (fun y hy=>(hKT y hy).2)).mono (fun e w2 hew=>?_)
 obtain ⟨hU,r,rfl,hK',hmv,hnw,hnn,hp⟩:=hew
 have hlen:(K' ρ r).length=ns.length:=by
  have q1:=hl ρ r
  have q2:=congrArg LH (hk ρ)
  unfold gG at q2
  simp at q2
  omega
 have hjj:∀ (j j2 n:Nat),ns[j]? = some n->ns[j2]? = some n->j2=j:=by
  intro j j2 n hj hj2
  obtain ⟨l1,g1⟩:=Jl.1 hj
  obtain ⟨l2,g2⟩:=Jl.1 hj2
  have hpw:=List.pairwise_iff_getElem.1 hnd
  rcases Nat.lt_trichotomy j2 j with hlt | hlt | hlt
  ·exact absurd (g2.trans g1.symm) (hpw _ _ l2 l1 hlt)
  ·exact hlt
  ·exact absurd (g1.trans g2.symm) (hpw _ _ l1 l2 hlt)
 have hzip:∀ (j n:Nat) (y:Nat × Obj),ns[j]? = some n->(K' ρ r)[j]? = some y->(ns.zip (K' ρ r)).lookup n=some y:=by
  intro j n y hj hy
  have hm:(n,y)∈ns.zip (K' ρ r):=Jo.2 ⟨j,by grind⟩
  cases hq:(ns.zip (K' ρ r)).lookup n with
  | none=>exact absurd hm (Am hq y)
  | some y2 =>
    obtain ⟨j2,hj2⟩:=Jo.1 (mZ hq)
    rw [Kr] at hj2
    have e:=hjj j j2 n hj hj2.1
    rw [e,hy] at hj2
    exact hj2.2.symm
 refine ⟨r,rfl,?_,?_,?_,?_,?_⟩
 ·refine ⟨hU.os.trans hb.os, hU.tape.trans hb.tape, hU.output.trans hb.output, Jq hb.size hU.size, fun k hk' hX => (hU.block k (Ja hk' hb.size) ?_).trans (hheap k hk')⟩
  intro hm
  obtain ⟨y,hy,rfl⟩:=Jk.1 hm
  obtain ⟨j,hj⟩:=Jo.1 hy
  have hjl:j<ns.length:=by grind
  obtain ⟨x,hx,_,hKj⟩:=hKk j ns[j] (IX hjl)
  obtain rfl:y=yZ (effs ρ) ops.size (dep D i) ns[j] x:=JB.inj (hj.symm.trans hKj)
  refine hX ⟨ns[j],(K' ρ r)[j]'om,x,?_,hx,rfl⟩
  rw [he]
  exact Jo.2 ⟨j,by grind⟩
 ·rw [he]
  intro n y hm
  obtain ⟨j,hj⟩:=Jo.1 hm
  rw [Kr] at hj
  obtain ⟨x,hx,hok,hKj⟩:=hKk j n hj.1
  refine ⟨hok,x,hx,?_,?_⟩
  ·rw [hzip j n y hj.1 hj.2]
   exact hK' y (J7 hj.2)
  ·rw [hzip j n y hj.1 hj.2]
   rcases hmv j _ y hKj hj.2 with q | ⟨q1,q2,q3⟩
   ·exact Ju q
   ·refine JW ⟨Jq hb.size q1, fun n' y' hm' => ?_, q3⟩
    obtain ⟨j',hj'⟩:=Jo.1 hm'
    rw [Kr] at hj'
    obtain ⟨x',hx',hok',hKj'⟩:=hKk j' n' hj'.1
    rcases q2 j' y' hj'.2 with e | e
    ·subst e
     exact Ju (JB.inj (hj'.1.symm.trans hj.1))
    ·rcases hmv j' _ y' hKj' hj'.2 with q' | ⟨q', _, _⟩
     ·right
      rw [q']
      exact hG.lt _ (hG.block n' x' hx' hok').2.1
     ·exact absurd e om
 ·rw [he]
  intro k b q hk
  obtain ⟨q1,q2⟩:=hnw k b q hk
  exact ⟨Jq hb.size q1,q2⟩
 ·rw [he];exact hnn
 ·refine hp.sub (fun b hbT => ?_)
  rw [he] at hbT
  rcases hbT with hbT | hbT | hbT
  ·exact Ju hbT
  ·exact JW (Ju hbT)
  ·obtain ⟨⟨n, y⟩, hm, rfl⟩ := Jk.1 hbT
   exact JW (JW (Jk.2 ⟨y,(List.of_mem_zip hm).2,rfl⟩))
theorem qMW (n : Nat) (ns : List Nat) {f : Nz} {args : (Nat -> bT) -> Array Ns} {v : (Nat -> bT) -> bT -> Ns} {g : (Nat -> bT) -> Nat} {ob : (Nat -> bT) -> Obj} {ob' : (Nat -> bT) -> bT -> Obj} {K : (Nat -> bT) -> List (Nat × Obj)} {K1 : (Nat -> bT) -> bT -> List (Nat × Obj)} {Φ : (Nat -> bT) -> bT -> Nu -> Prop}
 (hf:∀ ρ T w,iM ops D w0 h F0 effs fact i ρ T w->bI (K ρ) w->w.heap[g ρ]? = some (ob ρ)->(∀ x∈K ρ,T x.1)->T (g ρ)->Calls P f (args ρ) w (fun e w'=>∃ r,e=.returned (v ρ r)/\pG (fun b=>b=g ρ\/b∈(K ρ).map (·.1)) w w'/\bI (K1 ρ r) w'/\(r.n.headD 0=g ρ\/w.heap.size<=r.n.headD 0)/\w'.heap[r.n.headD 0]? = some (ob' ρ r)/\bZ (fun b=>T b\/b=r.n.headD 0) (Φ ρ r) w'))
 (hc:∀ ρ z,iG P ops D l (vals ρ) i z=some (.enter f (args ρ),[],[]):=by intros;kernel_rfl)
 (hv:∀ ρ r,vals (dU ρ i r) i=v ρ r:=by intros;kernel_rfl) (he:∀ ρ r,effs (dU ρ i r) i={ puts:=(n,r.n.headD 0,ob' ρ r)::ns.zip (K1 ρ r)}:=by intros;kernel_rfl)
 (hn:∀ ρ,fM ops D h (effs ρ) i (n::ns)=true:=by intros;kernel_rfl) (hk:∀ ρ,gG ops D h (effs ρ) i (n::ns)=(g ρ,ob ρ)::K ρ:=by intros;kernel_rfl) (hl:∀ ρ r,(K1 ρ r).map (·.1)=(K ρ).map (·.1):=by intros;kernel_rfl)
 (ht:∀ ρ r,fact (dU ρ i r) i=Φ ρ r:=by intros;kernel_rfl):mW P ops D l w0 h F0 vals effs fact i:=by
 refine o_callGX i (n::ns) f args (fun ρ=>(g ρ,ob ρ)::K ρ) (fun ρ r=>(r.n.headD 0,ob' ρ r)::K1 ρ r) (fun _ _=>[]) hc he hn hk (fun ρ r=>by have:=congrArg LH (hl ρ r);simpa using this) (fun ρ T w hG hK hT=>?_)
 refine (hf ρ T w hG (fun x hx=>hK x (Jj _ hx)) (hK _ Ji) (fun x hx=>hT x (Jj _ hx)) (hT _ Ji)).mono (fun e w' hew=>?_)
 obtain ⟨r,h1,h2,h3,h4,h5,h6⟩:=hew
 have hpl:∀ (j:Nat) (x y),(K ρ)[j]? = some x->(K1 ρ r)[j]? = some y->y.1=x.1:=by
  intro j x y hx hy
  have q:=congrArg (fun l:List Nat=>l[j]?) (hl ρ r)
  simp [JI,hx,hy,JG,JB.injEq] at q
  exact q
 have hin:∀ (j:Nat) y,(K1 ρ r)[j]? = some y->T y.1:=by
  intro j y hy
  have hj:j<(K ρ).length:=by
   have:=congrArg LH (hl ρ r)
   simp at this
   rw [<- this];exact (Jl.1 hy).1
  rw [hpl j _ y (IX hj) hy]
  exact hT _ (Jj _ (List.getElem_mem hj))
 refine ⟨⟨h2.os,h2.tape,h2.output,h2.size,fun k hk hX=>h2.block k hk (fun q=>hX ?_)⟩,r,h1.trans (by grind),?_,?_,?_,?_,?_⟩
 ·rcases q with q | q
  ·rw [q];exact Ji
  ·exact Jj _ q
 ·intro x hx
  rcases JC.1 hx with rfl | hx
  ·exact h5
  ·exact h3 x hx
 ·intro j x y hx hy
  cases j with
  | zero =>
    simp only [List.getElem?_cons_zero,JB.injEq] at hx hy
    subst hx;subst hy
    rcases h4 with q | q
    ·exact Ju q
    ·refine JW ⟨q, fun j' y' hy' => ?_, rfl⟩
     cases j' with
     | zero=>exact Ju rfl
     | succ j'=>exact JW (hG.lt _ (hin j' y' (by grind)))
  | succ j=>exact Ju (hpl j x y (by grind) (by grind))
 ·intro k b o hk;simp at hk
 ·simp
 ·rw [ht]
  refine h6.sub (fun b hb=>?_)
  rcases hb with hb | hb | hb
  ·exact Ju hb
  ·simp at hb
  ·obtain ⟨y, hy, rfl⟩ := Jk.1 hb
   rcases JC.1 hy with rfl | hy
   ·exact JW rfl
   ·obtain ⟨j, hj⟩ := Jo.1 hy
    exact Ju (hin j y hj)
theorem qNW (ns:List Nat) {f:Nz} {args:(Nat->bT)->Array Ns} {v:(Nat->bT)->bT->Ns} {ob':(Nat->bT)->bT->Obj} {K:(Nat->bT)->List (Nat × Obj)} {K1:(Nat->bT)->bT->List (Nat × Obj)} {Φ:(Nat->bT)->bT->Nu->Prop}
 (hf:∀ ρ T w,iM ops D w0 h F0 effs fact i ρ T w->bI (K ρ) w->(∀ x∈K ρ,T x.1)->Calls P f (args ρ) w (fun e w'=>∃ r,e=.returned (v ρ r)/\pG (fun b=>b∈(K ρ).map (·.1)) w w'/\bI (K1 ρ r) w'/\w.heap.size<=r.n.headD 0/\w'.heap[r.n.headD 0]? = some (ob' ρ r)/\bZ (fun b=>T b\/b=r.n.headD 0) (Φ ρ r) w'))
 (hc:∀ ρ z,iG P ops D l (vals ρ) i z=some (.enter f (args ρ),[],[]):=by intros;kernel_rfl)
 (hv:∀ ρ r,vals (dU ρ i r) i=v ρ r:=by intros;kernel_rfl) (he:∀ ρ r,effs (dU ρ i r) i={ news:=[(r.n.headD 0,ob' ρ r)],puts:=ns.zip (K1 ρ r)}:=by intros;kernel_rfl)
 (hn:∀ ρ,fM ops D h (effs ρ) i ns=true:=by intros;kernel_rfl) (hk:∀ ρ,gG ops D h (effs ρ) i ns=K ρ:=by intros;kernel_rfl) (hl:∀ ρ r,(K1 ρ r).map (·.1)=(K ρ).map (·.1):=by intros;kernel_rfl)
 (ht:∀ ρ r,fact (dU ρ i r) i=Φ ρ r:=by intros;kernel_rfl):mW P ops D l w0 h F0 vals effs fact i:=by
 refine o_callGX i ns f args K K1 (fun ρ r=>[(r.n.headD 0,ob' ρ r)]) hc he hn hk (fun ρ r=>by have:=congrArg LH (hl ρ r);simpa using this) (fun ρ T w hG hK hT=>?_)
 refine (hf ρ T w hG hK hT).mono (fun e w' hew=>?_)
 obtain ⟨r,h1,h2,h3,h4,h5,h6⟩:=hew
 have hpl:∀ (j:Nat) (x y),(K ρ)[j]? = some x->(K1 ρ r)[j]? = some y->y.1=x.1:=by
  intro j x y hx hy
  have q:=congrArg (fun l:List Nat=>l[j]?) (hl ρ r)
  simp [JI,hx,hy,JG,JB.injEq] at q
  exact q
 refine ⟨h2,r,h1.trans (by grind),h3,fun j x y hx hy=>Ju (hpl j x y hx hy),?_,?_,?_⟩
 ·intro k b o hk
  cases k with
  | zero =>
    obtain ⟨rfl,rfl⟩:=hk
    exact ⟨h4,h5⟩
  | succ k=>simp at hk
 ·simp
 ·rw [ht]
  refine h6.sub (fun b hb=>?_)
  rcases hb with hb | hb | hb
  ·exact Ju hb
  ·exact JW (by grind)
  ·rw [hl] at hb
   obtain ⟨x,hx,rfl⟩:=Jk.1 hb
   exact Ju (hT x hx)
theorem qXW (ns:List Nat) {f:Nz} {args:(Nat->bT)->Array Ns} {v:(Nat->bT)->Ns} {K:(Nat->bT)->List (Nat × Obj)} {K1:(Nat->bT)->bT->List (Nat × Obj)}
 (hf:∀ ρ T w,iM ops D w0 h F0 effs fact i ρ T w->bI (K ρ) w->(∀ x∈K ρ,T x.1)->Calls P f (args ρ) w (fun e w'=>∃ r,e=.returned (v ρ)/\pG (fun b=>b∈(K ρ).map (·.1)) w w'/\bI (K1 ρ r) w'))
 (hc:∀ ρ z,iG P ops D l (vals ρ) i z=some (.enter f (args ρ),[],[]):=by intros;kernel_rfl)
 (hv:∀ ρ r,vals (dU ρ i r) i=v ρ:=by intros;kernel_rfl) (he:∀ ρ r,effs (dU ρ i r) i={ puts:=ns.zip (K1 ρ r)}:=by intros;kernel_rfl)
 (hn:∀ ρ,fM ops D h (effs ρ) i ns=true:=by intros;kernel_rfl) (hk:∀ ρ,gG ops D h (effs ρ) i ns=K ρ:=by intros;kernel_rfl) (hl:∀ ρ r,(K1 ρ r).map (·.1)=(K ρ).map (·.1):=by intros;kernel_rfl)
 (ht:∀ ρ r,fact (dU ρ i r) i=(fun _=>True):=by intros;kernel_rfl):mW P ops D l w0 h F0 vals effs fact i:=by
 refine o_callGX i ns f args K K1 (fun _ _=>[]) hc he hn hk (fun ρ r=>by have:=congrArg LH (hl ρ r);simpa using this) (fun ρ T w hG hK hT=>?_)
 refine (hf ρ T w hG hK hT).mono (fun e w' hew=>?_)
 obtain ⟨r,h1,h2,h3⟩:=hew
 refine ⟨h2,r,h1.trans (by grind),h3,fun j x y hx hy=>Ju ?_,fun k b o hk=>by grind,by simp,by rw [ht];exact dL (fun _=>trivial)⟩
 have q:=congrArg (fun l:List Nat=>l[j]?) (hl ρ r)
 simp [JI,hx,hy,JG,JB.injEq] at q
 exact q
theorem qOr {f:Nz} {args:(Nat->bT)->Array Ns} {v:(Nat->bT)->bT->Ns} {Φ:(Nat->bT)->bT->Nu->Prop}
 (hf:∀ ρ T w,iM ops D w0 h F0 effs fact i ρ T w->Calls P f (args ρ) w (fun e w'=>Below w.heap.size w w'/\∃ r,e=.returned (v ρ r)/\bZ T (Φ ρ r) w'))
 (hc:∀ ρ z,iG P ops D l (vals ρ) i z=some (.enter f (args ρ),[],[]):=by intros;kernel_rfl)
 (hv:∀ ρ r,vals (dU ρ i r) i=v ρ r:=by intros;kernel_rfl) (he:∀ ρ r,effs (dU ρ i r) i={}:=by intros;kernel_rfl)
 (ht:∀ ρ r,fact (dU ρ i r) i=Φ ρ r:=by intros;kernel_rfl):mW P ops D l w0 h F0 vals effs fact i:=by
 refine o_callGT i f args hc he (fun ρ T w hG=>(hf ρ T w hG).mono (fun e w' hew=>?_))
 obtain ⟨hb,r,h1,h2⟩:=hew
 exact ⟨hb,r,by grind,by grind⟩
end
end
variable {a:OA}
section
def NwA (n:Nat) (a:OA):Prop:=∀ p,a=some p->n<=p.block
theorem NwA.some {g:Nat} (h:n<=g):NwA n (some ⟨g,0,none⟩):=fun p hp=>by
 obtain rfl:(⟨g,0,none⟩:Addr)=p:=by simpa using hp
 exact h
theorem NwA.ap (h:NwA n a) (hT:∀ b,T b->b<n):zH T a m:=fun p hp _ ht=>by
 have h1:=h p hp
 have h2:=hT _ ht
 omega
theorem NwA.none:NwA n none:=fun _ h=>absurd h (by simp)
def KjF (w0 w:Nu) (ks:List dB):Prop:=∀ p∈ks,Fi w0 w .u32 p.pa p.pc (nI p.ps)
structure KpN (w0 w:Nu) (a:OA) (c:Nat) (ks:List dB):Prop where
 f:wX w a c ks
 n:NwA w0.heap.size a
 p:KjF w0 w ks
theorem KjF.nil {w:Nu}:KjF w0 w []:=fun _ h=>absurd h (by simp)
theorem KpN.nil {w:Nu}:KpN w0 w none 0 []:=⟨wX.nil,NwA.none,KjF.nil⟩
theorem KpN.uC {w:Nu} {ks:List dB} (h:KpN w0 w a c ks) (hT:∀ b,T b->b<w0.heap.size):bZ T (fun w=>wX w a c ks) w :=
 wX.mkP h.f.le h.f.max (h.f.rows.uC (h.n.ap hT)) (fun p hp=>(h.p p hp).uC hT) h.f.ok
theorem kK_one (p:dB):kK.A p.row [p] 1:=⟨by show p.row.toList.take _=_;rw [kK_r];simp only [kpR,JZ,List.flatMap_nil,Ld,J9],kK.r_len _,IR _,by have:=dB.lQ p;rw [Jy] at this;rw [this]⟩
section
variable {B:nN} {w:Nu} {h:List (Nat × Obj)} {F:Nu→Prop} {g:Nat}
theorem St.GH (hS:St B h F w) (k:Nat) {N:List dB} (hA:kK.A C N c) (hm:N.length<=1000000) (hok:∀ p∈N,p.Ok) (hF:∀ w,F w->KjF B.w w N) (hn0:B.w.heap.size<=g) (ks':List Nat) {h':List (Nat × Obj)}
 (hk:h[k]? = some (g,.cells C e fr):=by kernel_rfl) (hh:uU ks' (h.eraseIdx k)=h':=by kernel_rfl):St B h' (fun w=>KpN B.w w (some ⟨g,0,none⟩) c N/\F w) w:=by
 refine hS.froz k hk ks' hh (fun _ hg hn=>?_)
 have hsub:∀ b,b∈h'.map (·.1)->b∈h.map (·.1):=fun b hb=>((((hh ▸ nX ks' _:Kq h' (h.eraseIdx k)).trans (JX h k)).map _).subset hb)
 have hP:bZ (fun b=>b∈h'.map (·.1)) (fun w=>KjF B.w w N) w:=(hS.facts.sub hsub).mono hF
 have hrow:Rs w (some ⟨g,0,none⟩) (kpR N):=by rw [<- kK_r];exact Rs.FU hg hA
 exact ((wX.mkP hA.le hm (hrow.uC (fun p hp _ hx=>by
  obtain rfl:(⟨g,0,none⟩:Addr)=p:=by simpa using hp
  exact hn hx)) (fun p hp=>hP.mono (fun w hw=>(hw p hp).1)) hok).and hP).mono (fun _ hw=>⟨hw.1,NwA.some hn0,hw.2⟩)
end
theorem St.subM {B:nN} {w:Nu} {h:List (Nat × Obj)} {F:Nu->Prop} (hS:St B h F w) (ks:List Nat) {h':List (Nat × Obj)} (hh:uU ks h=h':=by kernel_rfl):St B h' F w:=hS.sub (hh ▸ nX ks h)
def MdF (w0 w:Nu) (us:List aX):Prop:=∀ t∈us,t.Ok/\KpN w0 w t.ka t.kc t.ks/\SoftL t
theorem MdF.one {w:Nu} {t:aX} (h:t.Ok) (k:KpN w0 w t.ka t.kc t.ks) (s:SoftL t):MdF w0 w [t]:=fun x hx=>by rw [IY.1 hx];exact ⟨h,k,s⟩
theorem MdF.two {w:Nu} {t u:aX} (h:MdF w0 w [t]) (k:MdF w0 w [u]):MdF w0 w [t,u]:=fun x hx=>(JC.1 hx).elim (fun e=>h x (IY.2 e)) (k x)
theorem MdF.made {w:Nu} {us:List aX} (h:MdF w0 w us) (hT:∀ b,T b->b<w0.heap.size):∀ t∈us,MadeT T w t:=fun t ht=>⟨(h t ht).1,(h t ht).2.1.uC hT,(h t ht).2.2⟩
theorem KjF.one {w:Nu} (h:Fi w0 w .u32 p.pa p.pc (nI p.ps)):KjF w0 w [p]:=fun x hx=>by rw [IY.1 hx];exact h
end
section
section
variable {f:Nat} {a:List Nat} {X:List UInt8} {R:Pth}
theorem st_e0 (hf:X.length<f) (hr:AX f a X=R) (h1:ND X [47]=false):R=⟨true,a,false,X⟩:=by
 cases f with
 | zero=>omega
 | succ f=>rw [AX,if_pos h1] at hr;exact hr.symm
theorem st_e1 (hf:X.length<f) (hr:AX f a X=R) (h1:ND X [47]=true) (h2:ND (NC X [47]) [42]=true):R=⟨true,a,true,NC (NC X [47]) [42]⟩:=by
 cases f with
 | zero=>omega
 | succ f=>rw [AX,if_neg (by rw [h1];decide),if_pos h2] at hr;exact hr.symm
theorem st_f (hf:X.length<f) (hr:AX f a X=R) (h1:ND X [47]=true) (h2:ND (NC X [47]) [42]=false) (h3:uD (NC X [47])=false):R=⟨false,[],false,NC X [47]⟩:=by
 cases f with
 | zero=>omega
 | succ f=>rw [AX,if_neg (by rw [h1];decide),if_neg (by rw [h2];decide),if_pos h3] at hr;exact hr.symm
theorem st_h (hf:X.length<f) (hr:AX f a X=R) (h1:ND X [47]=true) (h2:ND (NC X [47]) [42]=false) (h3:uD (NC X [47])=true) (h4:2147483648<=fP (NC X [47])):R=⟨false,[],false,dO (NC X [47])⟩:=by
 cases f with
 | zero=>omega
 | succ f=>rw [AX,if_neg (by rw [h1];decide),if_neg (by rw [h2];decide),if_neg (by rw [h3];decide),if_pos h4] at hr;exact hr.symm
theorem st_n1 (hf:X.length<f) (hr:AX f a X=R) (h1:ND X [47]=true) (h2:ND (NC X [47]) [42]=false) (h3:uD (NC X [47])=true) (h4: ¬ 2147483648<=fP (NC X [47])) (h5:ND (dO (NC X [47])) [104]=true) :
 (NC (dO (NC X [47])) [104]).length<f-1/\AX (f-1) (a++[fP (NC X [47])+2147483648]) (NC (dO (NC X [47])) [104])=R:=by
 have q1:=qH h1
 have q2:=lT (NC X [47])
 have q3:=qH h5
 cases f with
 | zero=>omega
 | succ f =>
   rw [AX,if_neg (by rw [h1];decide),if_neg (by rw [h2];decide),if_neg (by rw [h3];decide),if_neg h4,if_pos h5] at hr
   exact ⟨by simp only [Lh] at *;omega,hr⟩
theorem st_n0 (hf:X.length<f) (hr:AX f a X=R) (h1:ND X [47]=true) (h2:ND (NC X [47]) [42]=false) (h3:uD (NC X [47])=true) (h4: ¬ 2147483648<=fP (NC X [47])) (h5:ND (dO (NC X [47])) [104]=false) :
 (dO (NC X [47])).length<f-1/\AX (f-1) (a++[fP (NC X [47])]) (dO (NC X [47]))=R:=by
 have q1:=qH h1
 have q2:=lT (NC X [47])
 cases f with
 | zero=>omega
 | succ f =>
   rw [AX,if_neg (by rw [h1];decide),if_neg (by rw [h2];decide),if_neg (by rw [h3];decide),if_neg h4,if_neg (by rw [h5];decide)] at hr
   exact ⟨by simp only [Lh] at *;omega,hr⟩
end
theorem st_ok:∀ (f:Nat) (a:List Nat) (X:LU),(∀ x∈a,x<4294967296)->(∀ x∈(AX f a X).s,x<4294967296)/\(AX f a X).l.length<=X.length
 | 0,_,_,_=>⟨fun x hx=>absurd hx (by simp [AX]),IR _⟩
 | f + 1, a, X, h => by
   have q1:=dY X [47]
   have q2:=dY (NC X [47]) [42]
   have q3:=lT (NC X [47])
   have q4:=dY (dO (NC X [47])) [104]
   unfold AX
   split
   ·exact ⟨h,IR _⟩
   split
   ·exact ⟨h,by show (NC (NC X [47]) [42]).length<=_;omega⟩
   split
   ·exact ⟨fun x hx=>absurd hx (by simp),q1⟩
   split
   ·exact ⟨fun x hx=>absurd hx (by simp),by show (dO (NC X [47])).length<=_;omega⟩
   rename_i h4
   split
   ·have := st_ok f (a ++ [fP (NC X [47]) + 2147483648]) (NC (dO (NC X [47])) [104]) (fun x hx => (Jw.1 hx).elim (h x) (fun e => by rw [IY.1 e]; omega))
    exact ⟨this.1,by omega⟩
   ·have := st_ok f (a ++ [fP (NC X [47])]) (dO (NC X [47])) (fun x hx => (Jw.1 hx).elim (h x) (fun e => by rw [IY.1 e]; omega))
    exact ⟨this.1,by omega⟩
section
variable {L:List UInt8}
theorem rp_b (h:rbO 74 L=false):iQ L=⟨false,[],false,wL 74 L⟩:=by unfold iQ;rw [if_pos h]
theorem rp_k (h:rbO 74 L=true) (h1:Ba (lF 74 L)≠0):iQ L=⟨false,[],false,wL 74 L⟩:=by unfold iQ;rw [if_neg (by rw [h];decide),if_pos h1]
theorem rp_s (h:rbO 74 L=true) (h1:Ba (lF 74 L)=0):AX ((wL 74 L).length+1) [] (wL 74 L)=iQ L:=by unfold iQ;rw [if_neg (by rw [h];decide),if_neg om]
theorem rpK_t (h:(iQ L).o=true):oV L=iP (lF 74 L):=by unfold oV;rw [if_pos h]
theorem rpK_f (h:(iQ L).o=false):oV L=Ky.z:=by unfold oV;rw [if_neg (by rw [h];decide)]
theorem Bj (L:LU):(∀ x∈(iQ L).s,x<4294967296)/\(iQ L).l.length<=L.length:=by
 have q:=yO 74 L
 unfold iQ
 split
 ·exact ⟨fun x hx=>absurd hx (by simp),q⟩
 split
 ·exact ⟨fun x hx=>absurd hx (by simp),q⟩
 ·have := st_ok ((wL 74 L).length + 1) [] (wL 74 L) (fun x hx => absurd hx (by simp))
  exact ⟨this.1,by omega⟩
theorem rpK_ok (L:LU):(oV L).Ok:=by
 unfold oV;split
 ·exact kdK_ok _
 ·exact Ky.z_ok
theorem rpK_d (L:LU):GK (oV L).d:=by
 unfold oV iP
 split
 ·split
  ·show GK ((gB (lF 74 L) 1 : Nat) : Int)
   have:=gV (lF 74 L) 1
   unfold GK;omega
  ·exact ⟨by decide,by decide⟩
 ·exact ⟨by decide,by decide⟩
end
theorem Fi.of_kI {T:Nw} (hg:w0.heap.size<=g/\w.heap[g]? = some (.cells C T fr)) (hA:kI.A C ps c) (hm:ps.length<=140737488351232):Fi w0 w .u32 (some ⟨g,0,none⟩) c (nI ps) :=
 ⟨Is.of_kI hg.2 hA hm,fun p hp _=>by
  obtain rfl:(⟨g,0,none⟩:Addr)=p:=by simpa using hp
  exact hg.1⟩
theorem u32h (h: ¬ 2147483648<=n):J6.wrap ((n:Int)+2147483648)=((n+2147483648:Nat):Int):=by rw [KU];omega
theorem xH (L:LU):fP L<4294967296:=numV_lt L
end
theorem Rs.apart {vs : List Ns} (h : bZ T (fun w => Rs w a vs) w) : zH T a vs.length := by
 intro p hp h0 hT
 obtain ⟨S,h1,h2⟩:=h
 have hS: ¬ S p.block:=fun hs=>(h1 _ hs).2 hT
 have:=h2 { w with heap:=w.heap.setIfInBounds p.block (.cells #[] 0 (0,0))} (fun b hb=>by
  show (w.heap.setIfInBounds p.block _)[b]? = _
  rw [Lj,if_neg (fun e=>hS (by rw [e];exact hb))])
 rcases this with e | ⟨q,hq,hc⟩
 ·rw [e] at h0;exact absurd h0 (by simp)
 ·obtain rfl : p = q := by rw [hp] at hq; exact JB.inj hq
  obtain ⟨v,r,rfl⟩:∃ v r,vs=v::r:=by cases vs with
   | nil=>exact absurd h0 (by simp)
   | cons v r=>exact ⟨v,r,rfl⟩
  have h3:=hc 0 v rfl
  unfold Nl at h3
  rw [Gj] at h3
  simp only [Lj,if_pos] at h3
  split at h3
  ·rename_i c _ _ hx
   split at hx
   ·obtain ⟨rfl, _, _⟩ := by simpa using hx
    split at h3<;>simp at h3
   ·exact absurd hx (by simp)
  ·exact absurd h3 (by simp)
theorem zH.or {T':Nat->Prop} (h:zH T a n) (k:zH T' a n):zH (fun b=>T b\/T' b) a n:=fun p hp hn hb=>hb.elim (h p hp hn) (k p hp hn)
theorem zH.sub {T':Nat->Prop} (h:zH T a n) (k:∀ b,T' b->T b):zH T' a n:=fun p hp hn hb=>h p hp hn (k _ hb)
section
def wV (ρ:Nat->bT) (i:Nat):List dB:=((ρ i).t.headD default).ks
def oob (ρ:Nat->bT) (i:Nat):Obj:=(ρ i).o.tail.headD (.cells #[] 0 (0,0))
def oo0 (ρ:Nat->bT) (i:Nat):Obj:=(ρ i).o.headD (.cells #[] 0 (0,0))
def rkl (r:bT):List dB:=(r.t.headD default).ks
def CX (w:Nu) (ks:List dB):Prop:=∀ p∈ks,Is w .u32 p.pa p.pc (nI p.ps)
def NwP (n:Nat) (p:dB):Prop:=∀ a,p.pa=some a->0<(nI p.ps).length->n<=a.block
def sV (n:Nat) (t:aX):Prop:=NwA n t.ka/\∀ p∈t.ks,NwP n p
theorem CX.nil {w:Nu}:CX w []:=fun _ h=>absurd h (by simp)
theorem CX.app {w:Nu} {l m:List dB} (h:CX w l) (k:CX w m):CX w (l++m):=fun p hp=>(Jw.1 hp).elim (h p) (k p)
theorem CX.one {w:Nu} (h:Is w .u32 p.pa p.pc (nI p.ps)):CX w [p]:=fun q hq=>by rw [IY.1 hq];exact h
theorem NwP.le (h:NwP n p) (hm:m<=n):NwP m p:=fun a ha h0=>Jq hm (h a ha h0)
theorem sV.le {t:aX} (h:sV n t) (hm:m<=n):sV m t:=⟨fun p hp=>Jq hm (h.1 p hp),fun p hp=>(h.2 p hp).le hm⟩
theorem bY.app {w:Nu} {l m:List aX} (h:bY w l) (k:bY w m):bY w (l++m):=fun t ht=>(Jw.1 ht).elim (h t) (k t)
theorem bY.one {w:Nu} {t:aX} (h:wX w t.ka t.kc t.ks):bY w [t]:=fun x hx=>by rw [IY.1 hx];exact h
section
variable {B:nN} {w:Nu} {h:List (Nat × Obj)} {F:Nu→Prop} {q:Nat} {o:Obj} {T:Nat→Prop}
theorem St.newX (hS:St B h F w) (k:Nat) (ns:List Nat) (hB:B.ws=ns) (hk:(h.take k).map (·.1)=ns) (hx:(q,o)∈h.drop k):B.w.heap.size<=q/\w.heap[q]? = some o:=by
 have hm:(q,o)∈h:=La hx
 refine hS.newb hm (fun h1=>?_)
 rw [hB,<- hk] at h1
 have hn:=hS.nodup
 rw [<- List.take_append_drop k h,List.map_append,List.nodup_append] at hn
 exact hn.2.2 _ h1 _ (Jk.2 ⟨_,hx,rfl⟩) rfl
theorem pers_q {F:Nu->Prop} {ws:List Nat} (hS:St ⟨w0,ws⟩ h F w) (hm:(q,o)∈h) (hws:∀ b∈ws,T b) {G:Nu->Prop} (hY:bZ T G w0):bZ (fun b=>T b\/b=q) G w :=
 hY.dU (T':=fun b=>T b\/b=q) (X:=fun b=>b∈ws) hS.aS hws (fun b hb=>hb.elim Ju (fun e=>by
  rcases (hS.at_ _ hm).1 with k | k
  ·exact JW (by rw [e];exact k)
  ·exact Ju (by rw [e];exact hws _ k)))
theorem is_q {F:Nu->Prop} (hS:St B h F w) (hm:(q,o)∈h) (hT:∀ b,T b->b<B.w.heap.size) (hF:∀ w,F w->Is w .u32 p.pa p.pc (nI p.ps)) (hn:NwP B.w.heap.size p):bZ (fun b=>T b\/b=q) (fun w=>Is w .u32 p.pa p.pc (nI p.ps)) w:=by
 have a1:zH (fun b=>b∈h.map (·.1)) p.pa (nI p.ps).length:=by
  have:=Rs.apart (hS.facts.mono (fun w hw=>(hF w hw).rows))
  rw [iv_length] at this;exact this
 refine (hF _ hS.facts.now).uC (zH.or (fun a ha h0 hb=>?_) (a1.sub (fun b hb=>by rw [hb];exact Jk.2 ⟨_,hm,rfl⟩)))
 have:=hn a ha h0
 have:=hT _ hb
 omega
theorem St.mvK {ws:List Nat} {l N:List dB} (hS:St ⟨w0,ws⟩ h F w) (hm:(q,o)∈h) (hws:∀ b∈ws,T b) (hT:∀ b,T b->b<w0.heap.size) (hY:bZ T (fun w=>CX w l) w0) (hF:∀ w,F w->CX w N) (hX:∀ p∈N,p∈l\/NwP w0.heap.size p):bZ (fun b=>T b\/b=q) (fun w=>CX w N) w :=
 GU (fun p hp=>(hX p hp).elim (fun hl=>(pers_q hS hm hws hY).mono (fun _ h=>h p hl)) (fun hn=>is_q hS hm hT (fun w hw=>hF w hw p hp) hn))
theorem kpf_q {F:Nu->Prop} (hS:St B h F w) (hm:(q,o)∈h) (hT:∀ b,T b->b<B.w.heap.size) {t:aX} (hF:∀ w,F w->wX w t.ka t.kc t.ks) (hn:sV B.w.heap.size t):bZ (fun b=>T b\/b=q) (fun w=>wX w t.ka t.kc t.ks) w:=by
 have f0:=hF _ hS.facts.now
 have a1:=Rs.apart (hS.facts.mono (fun w hw=>(hF w hw).rows))
 refine wX.mkP f0.le f0.max (f0.rows.uC (zH.or (fun a ha h0 hb=>?_) (a1.sub (fun b hb=>by rw [hb];exact Jk.2 ⟨_,hm,rfl⟩)))) (fun p hp=>is_q hS hm hT (fun w hw=>(hF w hw).sub p hp) (hn.2 p hp)) f0.ok
 have:=hn.1 a ha
 have:=hT _ hb
 omega
theorem St.mvT {ws:List Nat} {l N:List aX} (hS:St ⟨w0,ws⟩ h F w) (hm:(q,o)∈h) (hws:∀ b∈ws,T b) (hT:∀ b,T b->b<w0.heap.size) (hY:bZ T (fun w=>bY w l) w0) (hF:∀ w,F w->bY w N) (hX:∀ t∈N,t∈l\/sV w0.heap.size t):bZ (fun b=>T b\/b=q) (fun w=>bY w N) w :=
 GU (fun p hp=>(hX p hp).elim (fun hl=>(pers_q hS hm hws hY).mono (fun _ h=>h p hl)) (fun hn=>kpf_q hS hm hT (fun w hw=>hF w hw p hp) hn))
theorem St.frozKI (hS:St B h F w) (k:Nat) {N:List dB} (hA:kK.A C N c) (hm:N.length<=1000000) (hok:∀ p∈N,p.Ok) (hF:∀ w,F w->CX w N) (ks':List Nat) {h':List (Nat × Obj)}
 (hk:h[k]? = some (g,.cells C e fr):=by kernel_rfl) (hh:uU ks' (h.eraseIdx k)=h':=by kernel_rfl):St B h' (fun w=>wX w (some ⟨g,0,none⟩) c N/\F w) w:=by
 refine hS.froz k hk ks' hh (fun _ hg hn=>?_)
 have hsub:∀ b,b∈h'.map (·.1)->b∈h.map (·.1):=fun b hb=>((((hh ▸ nX ks' _:Kq h' (h.eraseIdx k)).trans (JX h k)).map _).subset hb)
 have hrow:Rs w (some ⟨g,0,none⟩) (kpR N):=by rw [<- kK_r];exact Rs.FU hg hA
 exact wX.mkP hA.le hm (hrow.uC (fun p hp _ hx=>by
  obtain rfl:(⟨g,0,none⟩:Addr)=p:=by simpa using hp
  exact hn hx)) (fun p hp=>(hS.facts.sub hsub).mono (fun w hw=>hF w hw p hp)) hok
theorem St.tJ (hS:St B h F w) (ks:List Nat) {h':List (Nat × Obj)} (hh:uU ks h=h':=by kernel_rfl):St B h' (fun w=>wX w none 0 []/\F w) w :=
 (hS.sub (hh ▸ nX ks h:Kq h' h)).dP (fun _ hF=>⟨wX.nil,hF⟩)
end
theorem src_k1 {w:Nu} {T tx:Nw} (hk:P.underlying tx=some (.slice e')) (hb:w.heap[g]? = some (.cells p.row T fr)):Src P 45 tx (.slice (some ⟨g,0,none⟩) 1 1) [p].length (kK.r [p]) w:=by
 have e:kK.r [p]=p.row.toList:=by rw [kK_r];simp [kpR]
 rw [e]
 exact GZ hk (by rw [KX];exact hb) (by rw [p.lQ]) (I5.2 (kp_one p))
theorem bI.cons {o:Obj} {K:List (Nat × Obj)} {w:Nu} (h:w.heap[x]? = some o) (k:bI K w):bI ((x,o)::K) w:=fun y hy=>(JC.1 hy).elim (fun e=>by rw [e];exact h) (k y)
theorem inC {T:Nat->Prop} {o:Obj} {K:List (Nat × Obj)} (h:T x) (k:∀ y∈K,T y.1):∀ y∈(x,o)::K,T y.1:=fun y hy=>(JC.1 hy).elim (fun e=>by rw [e];exact h) (k y)
theorem wsT {T:Nat->Prop} {K:List (Nat × Obj)} (k:∀ y∈K,T y.1):∀ b∈K.map (·.1),T b:=fun b hb=>by
 obtain ⟨y,hy,rfl⟩:=Jk.1 hb
 exact k y hy
theorem Fv {o:Obj} {K:List (Nat × Obj)} {w w':Nu} (h:pG (fun b=>b∈((x,o)::K).map (·.1)) w w'):pG (fun b=>b=x\/b∈K.map (·.1)) w w':=⟨h.os,h.tape,h.output,h.size,fun k hk hX=>h.block k hk (fun hm=>hX (JC.1 hm))⟩
theorem St.Ec {w:Nu} {q q':Nat} {ws:List Nat} {o:Obj} {r:List (Nat × Obj)} {F:Nu->Prop} (hS:St ⟨w0,q::ws⟩ ((q',o)::r) F w) (ns:List Nat) (hw:ws=ns) (hr:(r.take ns.length).map (·.1)=ns):q'=q\/w0.heap.size<=q':=by
 rcases (hS.at_ _ Ji).1 with k | k
 ·exact JW k
 ·rcases JC.1 k with e | e
  ·exact Ju e
  ·have hn := hS.nodup
   rw [Kv,LZ] at hn
   refine absurd ?_ hn.1
   rw [hw,<- hr] at e
   obtain ⟨y,hy,he⟩:=Jk.1 e
   exact Jk.2 ⟨y,Lc hy,he⟩
theorem neT {w:Nu} {C':Array Ns} {T T':Nw} {fr':Nat × Nat} (h:w.heap[g]? = some (.cells C T fr)) (k:w.heap[b]? = some (.cells C' T' fr')) (hT:(T==T')=false):g≠b:=fun e=>by
 rw [e,k] at h
 simp only [JB.injEq,Obj.cells.injEq] at h
 rw [h.2.1] at hT
 simp at hT
theorem nd2 {w:Nu} {C':Array Ns} {T T':Nw} {fr':Nat × Nat} (hK:bI [(g,.cells C T fr),(b,.cells C' T' fr')] w) (hT:(T==T')=false):([g,b]:List Nat).Nodup:=by
 have:=neT (hK _ (.head _)) (hK _ (.tail _ (.head _))) hT
 simp [this]
theorem nd3 {w:Nu} {q:Nat} {C' E:Array Ns} {T T' U:Nw} {fr' fs:Nat × Nat} (hK:bI [(q,.cells E U fs),(g,.cells C T fr),(b,.cells C' T' fr')] w) (h1:(U==T)=false) (h2:(U==T')=false) (hT:(T==T')=false):([q,g,b]:List Nat).Nodup:=by
 have a:=neT (hK _ (.head _)) (hK _ (.tail _ (.head _))) h1
 have b:=neT (hK _ (.head _)) (hK _ (.tail _ (.tail _ (.head _)))) h2
 have c:=neT (hK _ (.tail _ (.head _))) (hK _ (.tail _ (.tail _ (.head _)))) hT
 simp [a,b,c]
theorem Gg (L:LU):(dB.mk (oV L) (iQ L).s (iQ L).w a c).Ok:=⟨rpK_ok L,rpK_d L,(Bj L).1⟩
theorem EY {N a:List dB} (h:N.map dB.er=a) (ha:∀ p∈a,p.Ok):∀ p∈N,p.Ok:=fun p hp=>by
 have h1:p.er∈a:=h ▸ List.mem_map_of_mem hp
 have h2:=ha _ h1
 exact ⟨h2.k,h2.d,h2.ps⟩
theorem eY {α:Type} {f:α->α} {N a:List α} (h:N.map f=a):N.length=a.length:=by rw [<- h,Le]
end
end Go.Proofs.YtegagmoldjiaaaaGreatDoor
