/-
  What this statement needs, part 3: the texts of it, one behind the other.
-/
import Derived.Test.YtegagmoldjiaaaaGreatDoorBase2
import Derived.Shelf.LaysM
import Derived.Shelf.Strconv.Itoa3
import Derived.Test.YtegagmoldjiaaaaGreatDoorProg
import Derived.Lib.Walk
import Derived.Lib.ItoaMem
import Derived.Lib.AppendIntMem
import Derived.WalkKit
import Derived.BigCall
import Derived.BigGuard
import Derived.ChangeKeysEq
import Derived.Laws.StructEq
set_option maxRecDepth 100000
set_option linter.all false
namespace Go.Proofs.YtegagmoldjiaaaaGreatDoor
open Go Go.RowKit _root_.Go.Proofs.Tryz
open Go.Lib renaming trimPrefix→JW,hasPrefix→JX
open Go renaming undef→JQ,Value→JR,World→JS,Program→JU,TypeId→JV
open Go.Instr renaming indexAt→II
open Go.Ending renaming returned→IJ
open _root_.Nat renaming le_refl→IK,lt_of_lt_of_le→IR,le_add_right→IY,zero_le→I4,lt_succ_self→Js,lt_of_not_le→Jt,le_trans→Jv
open _root_.List renaming length_append→IL,length_nil→IP,length_cons→IU,append_assoc→IV,getD_eq_getElem?_getD→IW,replicate→IZ,eq_nil_of_length_eq_zero→I7,append_nil→Jc,mem_singleton→Jd,flatten_cons→Jj,length_replicate→Jl,length_take→Jm,all_eq_true→Jn,mem_append→Jy,mem_cons_of_mem→Jz,map_eq_nil_iff→JD,mem_map_of_mem→JE,mem_cons_self→JH,getElem?_map→JJ
open Go.Value renaming int→IM,agg→JL
open Go.IntKind renaming u64→IQ,u32→Jf,i64→JO
open _root_.Bool renaming noConfusion→IX
open Go.Next renaming value→I5
open Go.Lib renaming nDigits→I8,decDigits→Jo,zeros24→Jr,decDigits_length→JA,hid→JB,pow10Tab→JK
open Go.Builtin renaming append_→I9,copy_→JF,firstCells→JG
open _root_.Array renaming size_replicate→Ja
open _root_.Int renaming tmod→Jb,eq_ofNat_of_zero_le→Jg,ofNat_lt→Jw
open _root_.Option renaming some→Je,map_eq_some_iff→Jk,bind_eq_some_iff→Ju
open Go.Sem renaming run_bind→Jh
open Go.Result renaming andThen_ok→Ji
open _root_.Or renaming inl→Jp,inr→Jq
open _root_.Sum renaming inr→JC,inl→JP
open Go.Op renaming equalIn→JI,eqFields→JM
variable {ts:List aX} {n:Nat}
section
section
variable {k:Int} {L:List UInt8}
theorem hd_1 (h:k=1):zV k L=⟨(iQ L).o,tz k 0 0 0 [GL L],(iQ L).l⟩:=by unfold zV;rw [if_pos h]
theorem hd_m0 (h:k=2) (h1:uD L=false):(zV k L).o=false:=by unfold zV;rw [if_neg om,if_pos h,if_pos h1]
theorem hd_m1 (h:k=2) (h1:uD L=true) (h2:JX (dO L) [44]=false):(zV k L).o=false:=by
 unfold zV;rw [if_neg om,if_pos h,if_neg (by grind),if_pos h2]
theorem hd_n0 (h:k=3\/k=4) (h1:uD L=false):(zV k L).o=false:=by unfold zV;rw [if_neg om,if_neg om,if_pos h,if_pos h1]
theorem hd_n (h:k=3\/k=4) (h1:uD L=true):zV k L=⟨JX (dO L) [44],tz k 0 (fP L) 0 [],JW (dO L) [44]⟩:=by unfold zV;rw [if_neg om,if_neg om,if_pos h,if_neg (by grind)]
theorem hd_n1 (h:k=3\/k=4) (h1:uD L=true) (h2:JX (dO L) [44]=false):(zV k L).o=false:=by rw [hd_n h h1];exact h2
theorem hd_n2 (h:k=3\/k=4) (h1:uD L=true) (h2:JX (dO L) [44]=true):zV k L=⟨true,tz k 0 (fP L) 0 [],JW (dO L) [44]⟩:=by rw [hd_n h h1,h2]
theorem hd_h0 (h:k=5) (h1:rbO 32 L=false):(zV k L).o=false:=by unfold zV;rw [if_neg om,if_neg om,if_neg om,if_pos h,if_pos h1]
theorem hd_h (h:k=5) (h1:rbO 32 L=true):zV k L=⟨JX (wL 32 L) [44],tz k 0 0 (nB ((lF 32 L).take 32)) [],JW (wL 32 L) [44]⟩:=by unfold zV;rw [if_neg om,if_neg om,if_neg om,if_pos h,if_neg (by grind)]
theorem hd_h1 (h:k=5) (h1:rbO 32 L=true) (h2:JX (wL 32 L) [44]=false):(zV k L).o=false:=by rw [hd_h h h1];exact h2
theorem hd_h2 (h:k=5) (h1:rbO 32 L=true) (h2:JX (wL 32 L) [44]=true):zV k L=⟨true,tz k 0 0 (nB ((lF 32 L).take 32)) [],JW (wL 32 L) [44]⟩:=by rw [hd_h h h1,h2]
theorem hd_6 (h:k=6):zV k L=⟨true,tz k 0 0 0 [],L⟩:=by unfold zV;rw [if_neg om,if_neg om,if_neg om,if_neg om]
end
structure KsS (H:Rhd) (k:Int) (v:Nat) (f:Nat) (N:List dB) (X:LU) (ok:Bool):Prop where
 t:ok=true->X.length<f/\H=(fun y:Rks=>⟨y.o,tz k v 0 0 y.ks,y.l⟩) (ksR f (N.map dB.er) X)
 f:ok=false->H.o=false
section
variable {k:Int} {L X:List UInt8} {N N':List dB} {H:Rhd} {v f:Nat} {ok:Bool}
theorem ks_start (h:k=2) (h1:uD L=true) (h2:JX (dO L) [44]=true) (hN:N.map dB.er=[GL (JW (dO L) [44])]):KsS (zV k L) k (fP L) ((iQ (JW (dO L) [44])).l.length+1) N (iQ (JW (dO L) [44])).l (iQ (JW (dO L) [44])).o:=by
 refine ⟨fun ho=>⟨Js _,?_⟩,fun ho=>?_⟩
 ·unfold zV;rw [if_neg om,if_pos h,if_neg (by grind),if_neg (by grind),if_neg (by grind),hN]
 ·unfold zV;rw [if_neg om,if_pos h,if_neg (by grind),if_neg (by grind),if_pos ho]
theorem ks_next (h:KsS H k v f N X ok) (ho:ok=true) (h1:JX X [44]=true) (hN:N'.map dB.er=N.map dB.er++[GL (JW X [44])]):KsS H k v (f-1) N' (iQ (JW X [44])).l (iQ (JW X [44])).o:=by
 obtain ⟨hf,hH⟩:=h.t ho
 have q1:=qH h1
 have q2:=(Bj (JW X [44])).2
 cases f with
 | zero=>omega
 | succ f =>
   rw [ksR,if_neg (by grind)] at hH
   refine ⟨fun ho=>⟨om,?_⟩,fun ho=>?_⟩
   ·rw [if_neg (by grind)] at hH
    rw [hN];exact hH
   ·rw [if_pos ho] at hH
    rw [hH]
theorem ks_lt (h1:JX X [44]=true):(iQ (JW X [44])).l.length<X.length:=by
 have q1:=qH h1
 have q2:=(Bj (JW X [44])).2
 omega
theorem ks_end (h:KsS H k v f N X ok) (ho:ok=true) (h1:JX X [44]=false):H=⟨true,tz k v 0 0 (N.map dB.er),X⟩:=by
 obtain ⟨hf,hH⟩:=h.t ho
 cases f with
 | zero=>omega
 | succ f=>rw [ksR,if_pos h1] at hH;exact hH
end
theorem rcl_1 {x:Rtm} (h:x.o=true) (h1:JX x.l [41]=true):rcl x=⟨true,x.ts,JW x.l [41]⟩:=by unfold rcl;rw [if_neg (by grind),h1]
theorem rcl_0 {x:Rtm} (h1:JX x.l [41]=false):(rcl x).o=false:=by
 unfold rcl;split
 ·assumption
 ·exact h1
theorem rcl_f {x:Rtm} (h:x.o=false):(rcl x).o=false:=by unfold rcl;rw [if_pos h];exact h
section
variable {f:Nat} {a Nm:List aX} {t:aX} {L X:List UInt8}
theorem tm_0 (h:(eG L==0)=true):(eF (f+1) a L).o=false:=by unfold eF;rw [if_pos (beq_iff_eq.1 h)]
theorem tm_8 (h:a.length=8):(eF (f+1) a L).o=false:=by
 unfold eF;split
 ·rfl
 ·first | rfl | rw [if_pos h]
theorem tm_h (h:(zV (eG L) (aN L)).o=false):(eF (f+1) a L).o=false:=by
 unfold eF;split
 ·rfl
 split
 ·rfl
 ·simp [*]
theorem tm_kd (h0:(eG L==0)=false):eG L=1\/eG L=2\/eG L=3\/eG L=4\/eG L=5\/eG L=6:=by
 have e:eG L≠0:=fun q=>by grind
 have:=lH L
 omega
variable (h0:(eG L==0)=false) (h8:a.length≠8) (hx:zV (eG L) (aN L)=⟨true,t,X⟩)
include h0 h8 hx
theorem tm_go : eF (f + 1) a L = if eG L = 1 \/ eG L = 2 then rcl ⟨true, a ++ [t], X⟩ else
 if eG L=6 then
  (fun y:Rtm=>if y.o=false then y else if JX y.l [44]=false then ⟨false,y.ts,y.l⟩ else rcl (eF f y.ts (JW y.l [44]))) (eF f (a++[t]) X)
 else rcl (eF f (a++[t]) X):=by
 have e:eG L≠0:=fun q=>by grind
 conv=>lhs;unfold eF
 rw [if_neg e,if_neg h8,hx]
 simp
theorem tm_c0 (hk:decide (0<lU (eG L))=false):eF (f+1) a L=rcl ⟨true,a++[t],X⟩:=by
 rw [tm_go h0 h8 hx]
 rcases tm_kd h0 with e | e | e | e | e | e
 ·rw [if_pos (Jp e)]
 ·rw [if_pos (Jq e)]
 all_goals exact absurd hk (by rw [e];decide)
theorem tm_c1 (hk:decide (0<lU (eG L))=true) (hk2:decide (1<lU (eG L))=false):eF (f+1) a L=rcl (eF f (a++[t]) X):=by
 rw [tm_go h0 h8 hx]
 rcases tm_kd h0 with e | e | e | e | e | e
 ·exact absurd hk (by rw [e];decide)
 ·exact absurd hk (by rw [e];decide)
 ·rw [if_neg om,if_neg om]
 ·rw [if_neg om,if_neg om]
 ·rw [if_neg om,if_neg om]
 ·exact absurd hk2 (by rw [e];decide)
theorem tm_c2 (hk2:decide (1<lU (eG L))=true):eF (f+1) a L=(fun y:Rtm=>if y.o=false then y else if JX y.l [44]=false then ⟨false,y.ts,y.l⟩ else rcl (eF f y.ts (JW y.l [44]))) (eF f (a++[t]) X):=by
 rw [tm_go h0 h8 hx]
 rcases tm_kd h0 with e | e | e | e | e | e
 ·exact absurd hk2 (by rw [e];decide)
 ·exact absurd hk2 (by rw [e];decide)
 ·exact absurd hk2 (by rw [e];decide)
 ·exact absurd hk2 (by rw [e];decide)
 ·exact absurd hk2 (by rw [e];decide)
 ·rw [if_neg om,if_pos e]
theorem tm_E1 (hk:decide (0<lU (eG L))=false) (hc:JX X [41]=true):eF (f+1) a L=⟨true,a++[t],JW X [41]⟩:=by rw [tm_c0 h0 h8 hx hk,rcl_1 rfl hc]
theorem tm_F1 (hk:decide (0<lU (eG L))=false) (hc:JX X [41]=false):(eF (f+1) a L).o=false:=by rw [tm_c0 h0 h8 hx hk,rcl_0 hc]
theorem tm_Fy (hk:decide (0<lU (eG L))=true) (hy:(eF f (a++[t]) X).o=false):(eF (f+1) a L).o=false:=by
 cases h:decide (1<lU (eG L)) with
 | false=>rw [tm_c1 h0 h8 hx hk h,rcl_f hy]
 | true=>rw [tm_c2 h0 h8 hx h];simp [*]
theorem tm_E2 (hk:decide (0<lU (eG L))=true) (hk2:decide (1<lU (eG L))=false) (hy:(eF f (a++[t]) X).o=true) (hc:JX (eF f (a++[t]) X).l [41]=true):eF (f+1) a L=⟨true,(eF f (a++[t]) X).ts,JW (eF f (a++[t]) X).l [41]⟩:=by rw [tm_c1 h0 h8 hx hk hk2,rcl_1 hy hc]
theorem tm_F2 (hk:decide (0<lU (eG L))=true) (hk2:decide (1<lU (eG L))=false) (hc:JX (eF f (a++[t]) X).l [41]=false):(eF (f+1) a L).o=false:=by rw [tm_c1 h0 h8 hx hk hk2,rcl_0 hc]
theorem tm_F3 (hk2:decide (1<lU (eG L))=true) (hc:JX (eF f (a++[t]) X).l [44]=false):(eF (f+1) a L).o=false:=by
 rw [tm_c2 h0 h8 hx hk2]
 cases h:(eF f (a++[t]) X).o<;>simp [h,hc]
theorem tm_c3 (hk2:decide (1<lU (eG L))=true) (hy:(eF f (a++[t]) X).o=true) (hc:JX (eF f (a++[t]) X).l [44]=true) (hN:Nm=(eF f (a++[t]) X).ts):eF (f+1) a L=rcl (eF f Nm (JW (eF f (a++[t]) X).l [44])):=by
 rw [tm_c2 h0 h8 hx hk2,hN]
 simp only [hy,hc,Bool.true_eq_false,if_false]
theorem tm_E4 (hk2:decide (1<lU (eG L))=true) (hy:(eF f (a++[t]) X).o=true) (hc:JX (eF f (a++[t]) X).l [44]=true) (hN:Nm=(eF f (a++[t]) X).ts) (hz:(eF f Nm (JW (eF f (a++[t]) X).l [44])).o=true) (he:JX (eF f Nm (JW (eF f (a++[t]) X).l [44])).l [41]=true) :
 eF (f+1) a L=⟨true,(eF f Nm (JW (eF f (a++[t]) X).l [44])).ts,JW (eF f Nm (JW (eF f (a++[t]) X).l [44])).l [41]⟩:=by rw [tm_c3 h0 h8 hx hk2 hy hc hN,rcl_1 hz he]
theorem tm_Fz (hk2:decide (1<lU (eG L))=true) (hy:(eF f (a++[t]) X).o=true) (hc:JX (eF f (a++[t]) X).l [44]=true) (hN:Nm=(eF f (a++[t]) X).ts) (hz:(eF f Nm (JW (eF f (a++[t]) X).l [44])).o=false):(eF (f+1) a L).o=false:=by rw [tm_c3 h0 h8 hx hk2 hy hc hN,rcl_f hz]
theorem tm_F4 (hk2:decide (1<lU (eG L))=true) (hy:(eF f (a++[t]) X).o=true) (hc:JX (eF f (a++[t]) X).l [44]=true) (hN:Nm=(eF f (a++[t]) X).ts) (he:JX (eF f Nm (JW (eF f (a++[t]) X).l [44])).l [41]=false):(eF (f+1) a L).o=false:=by rw [tm_c3 h0 h8 hx hk2 hy hc hN,rcl_0 he]
end
theorem ksR_len:∀ (f:Nat) (a:List dB) (L:LU),(ksR f a L).l.length<=L.length
 | 0,_,_=>IK _
 | f + 1, a, L => by
   have q1:=dY L [44]
   have q2:=(Bj (JW L [44])).2
   unfold ksR;split
   ·exact IK _
   split
   ·show (iQ (JW L [44])).l.length<=_;omega
   ·have := ksR_len f (a ++ [GL (JW L [44])]) (iQ (JW L [44])).l
    omega
theorem hdR_len (k:Int) (L:LU):(zV k L).l.length<=L.length:=by
 have q0:=(Bj L).2
 have q1:=lT L
 have q2:=dY (dO L) [44]
 have q3:=(Bj (JW (dO L) [44])).2
 have q4:=yO 32 L
 have q5:=dY (wL 32 L) [44]
 have q6:=ksR_len ((iQ (JW (dO L) [44])).l.length+1) [GL (JW (dO L) [44])] (iQ (JW (dO L) [44])).l
 unfold zV
 repeat' split
 all_goals (first | omega | (simp only [];omega))
theorem EK (x:Rtm):(rcl x).l.length<=x.l.length/\(rcl x).ts=x.ts:=by
 unfold rcl;split
 ·exact ⟨IK _,rfl⟩
 ·exact ⟨dY _ _,rfl⟩
theorem vM : ∀ (f : Nat) (a : List aX) (L : LU), a.length <= 8 -> a.length <= (eF f a L).ts.length /\ (eF f a L).ts.length <= 8 /\ (eF f a L).l.length <= L.length
 | 0,a,L,h=>⟨IK _,h,IK _⟩
 | f + 1, a, L, h => by
   unfold eF
   split
   ·exact ⟨IK _,h,IK _⟩
   have q0:=gU L
   split
   ·exact ⟨IK _,h,q0⟩
   have q1:=hdR_len (eG L) (aN L)
   generalize zV (eG L) (aN L)=x at q1
   have l1:(a++[x.t]).length=a.length+1:=by simp
   have ih:=vM f (a++[x.t]) x.l om
   simp
   split
   ·exact ⟨IK _,h,by grind⟩
   split
   ·have r := EK ⟨true, a ++ [x.t], x.l⟩
    have:=r.1
    exact ⟨by grind,by grind,by grind⟩
   split
   ·generalize eF f (a ++ [x.t]) x.l = y at ih
    split
    ·exact ⟨om,ih.2.1,om⟩
    split
    ·exact ⟨by grind,ih.2.1,by grind⟩
    ·have q3 := dY y.l [44]
     have ih2:=vM f y.ts (JW y.l [44]) ih.2.1
     have r:=EK (eF f y.ts (JW y.l [44]))
     rw [r.2]
     exact ⟨om,ih2.2.1,om⟩
   ·have r := EK (eF f (a ++ [x.t]) x.l)
    rw [r.2]
    exact ⟨om,ih.2.1,om⟩
theorem yer {H:Rhd} {k m:Int} {nu h:Nat} {N ks:List dB} {X:LU} {a:OA} {c:Nat} (he:N.map dB.er=ks) (hH:H=⟨true,tz k m nu h ks,X⟩):H=⟨true,(aX.mk k m nu h N a c).er,X⟩:=by rw [hH,<- he];rfl
theorem AP {k m:Int} {nu h:Nat} {N:List dB} {a:OA} {c:Nat} (hk:0<=k/\k<=6) (hm:0<=m/\m<4294967296) (hn:nu<4294967296) (hh:h<M):(aX.mk k m nu h N a c).Ok:=⟨by show GK k;unfold GK;omega,by show GK m;unfold GK;omega,hn,hh⟩
theorem okK_era {N:List dB} (h:∀ p∈N,p.Ok):∀ p∈N.map dB.er,p.Ok:=fun p hp=>by
 obtain ⟨q,hq,rfl⟩:=List.mem_map.1 hp
 exact ⟨(h q hq).k,(h q hq).d,(h q hq).ps⟩
theorem n8A {A:List aX} (h:ts.map aX.er=A) (h8:(((ts.length:Nat):Int)==8)=false):A.length≠8:=by grind
theorem n8B {A:List aX} (h:ts.map aX.er=A) (h8:(((ts.length:Nat):Int)==8)=true):A.length=8:=by grind
theorem n8I (h8:(((n:Nat):Int)==8)=false):n≠8:=by grind
theorem rb32 {L:LU} (h:rbO 32 L=true):32<=(lF 32 L).length:=by
 unfold rbO at h
 split at h
 ·rename_i h1
  have e:=(rb_t h1).1
  have e0:=beq_iff_eq.1 h
  rw [e]
  unfold uhE at e0
  unfold BR
  unfold uhR at e0 ⊢
  have hl:(L.take (2*32)).length=64:=by grind
  split at e0
  ·exact absurd e0 dC
  split at e0
  ·exact absurd e0 dC
  split at e0
  ·rename_i q1 q2 q3
   rw [if_neg q1,if_neg q2,if_pos q3]
   rw [aZ,hl]
   exact om
  ·exact absurd e0 dC
 ·exact absurd h dC
theorem rb0 {L:LU} (h:rbO 32 L=false):lF 32 L=[]:=by
 unfold rbO at h
 split at h
 ·rename_i h1
  have e:=(rb_t h1).1
  rw [e]
  unfold uhE at h
  unfold BR
  unfold uhR at h ⊢
  split
  ·rfl
  split
  ·rfl
  split
  ·rename_i q1 q2 q3
   rw [if_neg q1,if_neg q2,if_pos q3] at h
   exact absurd h (by simp)
  ·rfl
 ·rename_i h1
  exact (rb_f h1).1
theorem er_snoc {A:List aX} {y:aX} (h:ts.map aX.er=A):(ts++[y]).map aX.er=A++[y.er]:=by grind
theorem sU {k m:Int} {nu h:Nat}:sV n (aX.mk k m nu h [] none 0):=⟨NwA.none,fun _ hp=>absurd hp (by simp)⟩
theorem lI {n0:Nat} {l:List aX} {y:aX} (h:∀ t∈l,t∈ts\/sV n t) (hy:sV n y) (hn:n0<=n):∀ t∈l++[y],t∈ts\/sV n0 t:=fun t ht=>(Jy.1 ht).elim (fun k=>(h t k).imp id (fun k=>k.le hn)) (fun k=>by rw [Jd.1 k];exact Jq (hy.le hn))
theorem nw_z {n0:Nat} {l:List aX} (h:∀ t∈l,t∈([]:List aX)\/sV n t) (hn:n0<=n):∀ t∈l,sV n0 t:=fun t ht=>(h t ht).elim (fun q=>absurd q (by simp)) (fun q=>q.le hn)
theorem iH:∀ t∈ts,t∈ts\/sV n t:=by grind
theorem lG {n0:Nat} {l m:List aX} (h:∀ t∈m,t∈l\/sV n t) (k:∀ t∈l,t∈ts\/sV n t) (hn:n0<=n):∀ t∈m,t∈ts\/sV n0 t:=fun t ht=>(h t ht).elim (fun q=>(k t q).imp id (fun q=>q.le hn)) (fun q=>Jq (q.le hn))
section
variable {P:JU} {t e:JV}
theorem wM {w : JS} {ty tx : JV} (ht : P.underlying t = some (.slice e)) (hi : vI P e) {g o c:Nat} {C : Array JR} {T : JV} {a : OA} {m d : Nat} {xs : LU} (hg : w.heap[g]? = some (.cells C T (0, 0)))
 (hb:Bs w a d xs) (hm:m=xs.length) (hn:o+n<=C.size) :
 ∃ w',(do pure (I5 (<- JF #[t,tx] ty #[.slice (some ⟨g,o,none⟩) n c,.slice a m d])):Sem Next).run P w=.ok (.value (goInt (Nat.min xs.length n))) w'/\DR w w' g (.cells (lK C o (bs (xs.take n))) T (0,0)):=by
 subst hm
 obtain ⟨i,h1,h2,h3,h4⟩:=hi
 refine ⟨_,?_,BO hg⟩
 have hlen:(bs (xs.take n)).length=Nat.min xs.length n:=by rw [iI,Jm];exact Nat.min_comm _ _
 have hst:=run_storeCells_at P g o T (bs (xs.take n)) 0 C w hg (by grind) (Dj _)
 have hfc:(JG 1 (Nat.min xs.length n) (.slice a xs.length d)).run P w=.ok (bs (xs.take n)).toArray w:=by
  cases a with
  | none =>
    have h0:xs=[]:=by
     rcases hb.rows with h0 | ⟨p,hp,_⟩
     ·exact JD.1 h0
     ·exact absurd hp (by simp)
    subst h0
    simp [JG,bs]
  | some p =>
    refine run_firstCells_some w 1 _ p _ d (bs (xs.take n)) om (fun j v hv=>?_)
    rcases hb.rows with h0 | ⟨p',hp,hh⟩
    ·have h0' : xs = [] := JD.1 h0
     subst h0'
     simp [bs] at hv
    ·obtain rfl : p = p' := by simpa using hp
     apply hh j v
     unfold bs at hv ⊢
     rw [List.map_take,List.getElem?_take] at hv
     split at hv
     ·exact hv
     ·exact absurd hv (by simp)
 have hrun:(JF #[t,tx] ty #[.slice (some ⟨g,o,none⟩) n c,.slice a xs.length d]).run P w=.ok (goInt (Nat.min xs.length n)) (w.setRow g (lK C o (bs (xs.take n)))):=by
  unfold lK
  simp [JF,run_underlying ht,Builtin.lenOf,sizeOf,typeInfo,h1,h2,hfc,hst]
 rw [Jh,hrun]
 rfl
end
theorem yU (kd m nu:Int) (h:Nat) (x:JR):(kJ kd m nu h x).size=36:=by simp [kJ,vY]
theorem copy_tm (kd m nu:Int) (h:Nat) (x:JR) {xs:LU} (hx:32<=xs.length):lK (kJ kd m nu h x) 3 (bs (xs.take 32))=kJ kd m nu (nB (xs.take 32)) x:=by
 have hl:(xs.take 32).length=32:=by grind
 unfold lK kJ
 rw [<- hB_nB hl,iI,hl]
 apply Array.ext'
 simp only [Array.toList_append]
 have e1:∀ A B:List JR,A.length=3->(A++B).take 3=A:=fun A B h=>List.take_left' h
 have e2:∀ A B E:List JR,A.length=3->B.length=32->(A++(B++E)).drop (3+32)=E:=fun A B E h k=>by rw [<- IV];exact List.drop_left' (by grind)
 rw [IV,IV,IV,e1 _ _ rfl,e2 _ _ _ rfl rfl]
theorem He (kd m nu:Int) (h:Nat) (x:JR) {xs:LU} (hx:xs=[]):lK (kJ kd m nu h x) 3 (bs (xs.take 32))=kJ kd m nu h x:=by
 subst hx
 unfold lK
 simp [bs]
end
def wS:LU:=[108,105,103,104,116,99,108,105,101,110,116,47,100,101,115,99,114,105,112,116,111,114]
theorem sum_8 (d:Nat):((((kU ((hL d).take 4)).length:Nat):Int)==8)=true:=by
 have h:(kU ((hL d).take 4)).length=8:=by rw [bD,Jm,aT];rfl
 rw [h];rfl
variable {us:List aX}
section
theorem ksT_er (ks:List dB):vZ (ks.map dB.er)=vZ ks:=by
 unfold vZ
 rw [List.flatMap_map];rfl
theorem fw_er (t:aX):t.er.fw=t.fw:=by
 unfold aX.fw
 have e:FwP t.er=FwP t:=by unfold FwP aX.er;simp
 simp [e]
theorem key_er (t:aX):lL (gK t.er.ks 0)=lL (gK t.ks 0):=by
 cases h:t.ks with
 | nil=>show lL (gK (t.ks.map dB.er) 0)=_;rw [h];rfl
 | cons p r=>show lL (gK (t.ks.map dB.er) 0)=_;rw [h];rfl
theorem mul_er (t:aX):lM t.er.m t.er.ks=lM t.m t.ks:=by
 show _++vZ (t.ks.map dB.er)++_=_
 rw [ksT_er];rfl
theorem er_head (h:ts.map aX.er=us.map aX.er):(gT ts 0).er=(gT us 0).er:=by
 cases ts with
 | nil => cases us with
   | nil=>rfl
   | cons u r=>simp at h
 | cons t r => cases us with
   | nil=>simp at h
   | cons u r'=>rw [List.map_cons] at h;injection h
theorem er_len (h:ts.map aX.er=us.map aX.er):ts.length=us.length:=by have:=congrArg List.length h;rwa [List.length_map,List.length_map] at this
section
variable {X Y:List aX} (he:X.map aX.er=Y.map aX.er)
include he
theorem er_get (i:Nat):(gT X i).er=(gT Y i).er:=by
 have g:∀ m:List aX,(gT m i).er=(m.map aX.er).getD i (default:aX).er:=fun m=>by
  unfold gT
  rw [IW,IW,JJ]
  cases m[i]? <;> rfl
 rw [g,g,he]
theorem er_f (i:Nat):(gT X i).kd=(gT Y i).kd/\(gT X i).m=(gT Y i).m/\(gT X i).nu=(gT Y i).nu/\(gT X i).h=(gT Y i).h/\(gT X i).ks.map dB.er=(gT Y i).ks.map dB.er:=by
 have h:=er_get he i
 unfold aX.er at h
 simp only [aX.mk.injEq] at h
 exact ⟨h.1,h.2.1,h.2.2.1,h.2.2.2.1,h.2.2.2.2.1⟩
theorem er_kl (i:Nat):(gT X i).ks.length=(gT Y i).ks.length:=by simpa using congrArg List.length (er_f he i).2.2.2.2
theorem er_k (i j:Nat):(gK (gT X i).ks j).k=(gK (gT Y i).ks j).k/\(gK (gT X i).ks j).ps=(gK (gT Y i).ks j).ps/\(gK (gT X i).ks j).wd=(gK (gT Y i).ks j).wd:=by
 have hk:=(er_f he i).2.2.2.2
 have g:∀ m:List dB,(gK m j).er=(m.map dB.er).getD j (default:dB).er:=fun m=>by
  unfold gK
  rw [IW,IW,JJ]
  cases m[j]? <;> rfl
 have h:(gK (gT X i).ks j).er=(gK (gT Y i).ks j).er:=by grind
 unfold dB.er at h
 simp only [dB.mk.injEq] at h
 exact ⟨h.1,h.2.1,h.2.2.1⟩
end
theorem bx_simE:∀ (f:Nat) (s t:Tq),s.ts.map aX.er=t.ts.map aX.er->(bx f s=none/\bx f t=none)\/∃ b s' t',bx f s=some (b,s')/\bx f t=some (b,t')/\s'.ts.map aX.er=t'.ts.map aX.er
 | 0,_,_,_=>Jp ⟨rfl,rfl⟩
 | f + 1, s, t, h => by
   have hg:=by
    show s.ts.tail.map aX.er=t.ts.tail.map aX.er
    rw [List.map_tail,List.map_tail,h]
   have he:s.fst.er=t.fst.er:=er_head h
   have hk:s.fst.er.kd=t.fst.er.kd:=by grind
   have hn:s.fst.er.nu=t.fst.er.nu:=by grind
   have hh:s.fst.er.h=t.fst.er.h:=by grind
   have hf:s.fst.fw=t.fst.fw:=by rw [<- fw_er s.fst,he,fw_er]
   have h1:lL (gK s.fst.ks 0)=lL (gK t.fst.ks 0):=by rw [<- key_er s.fst,he,key_er]
   have h2:lM s.fst.m s.fst.ks=lM t.fst.m t.fst.ks:=by rw [<- mul_er s.fst,he,mul_er]
   replace hk:s.fst.kd=t.fst.kd:=hk
   replace hn:s.fst.nu=t.fst.nu:=hn
   replace hh:s.fst.h=t.fst.h:=hh
   unfold bx
   rw [er_len h,hf,hk,hn,hh,h1,h2]
   by_cases c0:t.ts.length=0\/t.fst.fw=false
   ·rw [if_pos c0,if_pos c0];exact Jp ⟨rfl,rfl⟩
   rw [if_neg c0,if_neg c0]
   by_cases c1:t.fst.kd=1
   ·rw [if_pos c1,if_pos c1];exact Jq ⟨_,_,_,rfl,rfl,hg⟩
   rw [if_neg c1,if_neg c1]
   by_cases c2:t.fst.kd=2
   ·rw [if_pos c2,if_pos c2];exact Jq ⟨_,_,_,rfl,rfl,hg⟩
   rw [if_neg c2,if_neg c2]
   rcases bx_simE f s.go t.go hg with ⟨ha,hb⟩ | ⟨b,s',t',ha,hb,h'⟩
   ·rw [ha,hb];exact Jp ⟨rfl,rfl⟩
   rw [ha,hb]
   by_cases c6:t.fst.kd=6
   ·simp only [if_pos c6]
    rcases bx_simE f s' t' h' with ⟨ha,hb⟩ | ⟨b2,s2,t2,ha,hb,h2⟩
    ·rw [ha,hb];exact Jp ⟨rfl,rfl⟩
    ·rw [ha,hb];exact Jq ⟨_,_,_,rfl,rfl,h2⟩
   ·simp only [if_neg c6]
    by_cases c3:3<=t.fst.kd/\t.fst.kd<=5
    ·simp only [if_pos c3];exact Jq ⟨_,_,_,rfl,rfl,h'⟩
    ·simp only [if_neg c3];exact Jp (by simp)
theorem bxB_er (h:ts.map aX.er=us.map aX.er):uB ts=uB us:=by
 unfold uB
 rcases bx_simE 8 ⟨none,0,ts⟩ ⟨none,0,us⟩ h with ⟨ha,hb⟩ | ⟨b,s',t',ha,hb,_⟩
 ·rw [ha,hb]
 ·rw [ha,hb];rfl
theorem er_er (ts:List aX):(ts.map aX.er).map aX.er=ts.map aX.er:=by
 rw [List.map_map]
 refine List.map_congr_left (fun t _=>?_)
 show t.er.er=t.er
 unfold aX.er
 rw [List.map_map];rfl
def RdK (p:dB):Prop:=p.Ok/\p.ps.length<=20000
def RdT (t:aX):Prop:=t.Ok/\t.fw=true/\∀ p∈t.ks,RdK p
theorem st_len:∀ (f:Nat) (a:List Nat) (X:LU),(AX f a X).s.length<=a.length+X.length
 | 0,_,_=>I4 _
 | f + 1, a, X => by
   have q3:=lT (JW X [47])
   have q4:=dY (dO (JW X [47])) [104]
   unfold AX
   split
   ·exact IY _ _
   rename_i h1
   have q1:=qH (by simpa using h1)
   split
   ·exact IY _ _
   split
   ·exact I4 _
   split
   ·exact I4 _
   split
   ·have := st_len f (a ++ [fP (JW X [47]) + 2147483648]) (JW (dO (JW X [47])) [104])
    rw [IL,IU,IP] at this;omega
   ·have := st_len f (a ++ [fP (JW X [47])]) (dO (JW X [47]))
    rw [IL,IU,IP] at this;omega
theorem rp_len (L:LU):(iQ L).s.length<=L.length:=by
 have q:=yO 74 L
 unfold iQ
 split
 ·exact I4 _
 split
 ·exact I4 _
 ·have := st_len ((wL 74 L).length + 1) [] (wL 74 L)
  rw [IP] at this;omega
theorem rpA_rd {L:LU} (h:L.length<=20000):RdK (GL L):=⟨Gg L,Jv (rp_len L) h⟩
theorem ks_rd:∀ (f:Nat) (a:List dB) (L:LU),L.length<=20000->(∀ p∈a,RdK p)->(∀ p∈(ksR f a L).ks,RdK p)/\(ksR f a L).ks.length<=a.length+L.length/\a.length<=(ksR f a L).ks.length
 | 0,a,_,_,h=>⟨h,IY _ _,IK _⟩
 | f + 1, a, L, hL, h => by
   have q2:=(Bj (JW L [44])).2
   have hn:∀ p∈a++[GL (JW L [44])],RdK p:=fun p hp=>(Jy.1 hp).elim (h p) (fun e=>by
    rw [Jd.1 e];exact rpA_rd (Jv (dY _ _) hL))
   unfold ksR;split
   ·exact ⟨h,IY _ _,IK _⟩
   rename_i h1
   have q1:=qH (by simpa using h1)
   split
   ·refine ⟨hn, ?_, ?_⟩
    ·rw [IL,IU,IP];omega
    ·rw [IL];omega
   ·have := ks_rd f (a ++ [GL (JW L [44])]) (iQ (JW L [44])).l om hn
    rw [IL,IU,IP] at this
    exact ⟨this.1,om,om⟩
theorem tz_rd {k m:Int} {nu h:Nat} {ks:List dB} (hk:1<=k/\k<=6) (hm:0<=m/\m<4294967296) (hn:nu<4294967296) (hh:h<M) (h1:k=1->ks.length=1) (h2:k=2->1<=ks.length/\ks.length<=20000) (h3:k≠1->k≠2->ks.length=0) (hp:∀ p∈ks,RdK p):RdT (tz k m nu h ks):=by
 refine ⟨⟨by show GK k;unfold GK;omega,by show GK m;unfold GK;omega,hn,hh⟩,decide_eq_true ⟨h1,fun e=>?_,h3⟩,hp⟩
 have:=h2 e
 exact ⟨this.1,this.2,hm.1,hm.2⟩
theorem hd_rd {k:Int} {L:LU} (hk:1<=k/\k<=6) (hL:L.length<=19999) (ho:(zV k L).o=true):RdT (zV k L).t/\(zV k L).t.kd=k:=by
 have q0:∀ p∈([]:List dB),RdK p:=fun p hp=>absurd hp (by simp)
 have z0:(0:Int)<=0/\(0:Int)<4294967296:=om
 have n0:0<4294967296:=om
 unfold zV at ho ⊢
 by_cases c1:k=1
 ·rw [if_pos c1]
  exact ⟨tz_rd hk z0 n0 sK (fun _=>rfl) (fun e=>om) (fun e=>absurd c1 e) (fun p hp=>by rw [Jd.1 hp];exact rpA_rd om),rfl⟩
 rw [if_neg c1] at ho ⊢
 by_cases c2:k=2
 ·rw [if_pos c2] at ho ⊢
  by_cases d1:uD L=false
  ·rw [if_pos d1] at ho;exact IX (ho)
  rw [if_neg d1] at ho ⊢
  by_cases d2:JX (dO L) [44]=false
  ·rw [if_pos d2] at ho;exact IX (ho)
  rw [if_neg d2] at ho ⊢
  by_cases d3:(iQ (JW (dO L) [44])).o=false
  ·rw [if_pos d3] at ho;exact IX (ho)
  rw [if_neg d3]
  have l1:=lT L
  have l2:=dY (dO L) [44]
  have l3:=(Bj (JW (dO L) [44])).2
  have r:=ks_rd ((iQ (JW (dO L) [44])).l.length+1) [GL (JW (dO L) [44])] (iQ (JW (dO L) [44])).l om (fun p hp=>by rw [Jd.1 hp];exact rpA_rd om)
  simp at r
  have nv:=xH L
  exact ⟨tz_rd hk ⟨om,om⟩ n0 sK (fun e=>absurd e c1) (fun _=>⟨om,om⟩) (fun _ e=>absurd c2 e) r.1,rfl⟩
 rw [if_neg c2] at ho ⊢
 by_cases c3:k=3\/k=4
 ·rw [if_pos c3] at ho ⊢
  by_cases d1:uD L=false
  ·rw [if_pos d1] at ho;exact IX (ho)
  rw [if_neg d1]
  exact ⟨tz_rd hk z0 (xH L) sK (fun e=>absurd e c1) (fun e=>absurd e c2) (fun _ _=>rfl) q0,rfl⟩
 rw [if_neg c3] at ho ⊢
 by_cases c5:k=5
 ·rw [if_pos c5] at ho ⊢
  by_cases d1:rbO 32 L=false
  ·rw [if_pos d1] at ho;exact IX (ho)
  rw [if_neg d1]
  have hb:=by simpa using d1
  exact ⟨tz_rd hk z0 n0 (nB_M (by rw [Jm];exact Nat.min_eq_left (rb32 hb))) (fun e=>absurd e c1) (fun e=>absurd e c2) (fun _ _=>rfl) q0,rfl⟩
 rw [if_neg c5]
 exact ⟨tz_rd hk z0 n0 sK (fun e=>absurd e c1) (fun e=>absurd e c2) (fun _ _=>rfl) q0,rfl⟩
def WhA (b:List aX):Prop:=∀ (m:Int) (r:List aX),0<=m->zC (m+1) (b++r)=zC m r
theorem whA_cons {t:aX} {m:Int} {r:List aX} (hm:0<=m) (hk:0<=lU t.kd):zC (m+1) (t::r)=zC (m+lU t.kd) r:=by
 simp only [zC]
 rw [if_neg om,show m+1+(lU t.kd-1)=m+lU t.kd by omega]
theorem whA_0 {t:aX} (h:lU t.kd=0):WhA [t]:=fun m r hm=>by
 show zC (m+1) (t::r)=_
 rw [whA_cons hm om,h,Int.add_zero]
theorem whA_1 {t:aX} {b:List aX} (h:lU t.kd=1) (hb:WhA b):WhA (t::b):=fun m r hm=>by
 show zC (m+1) (t::(b++r))=_
 rw [whA_cons hm om,h];exact hb m r hm
theorem whA_2 {t:aX} {b c:List aX} (h:lU t.kd=2) (hb:WhA b) (hc:WhA c):WhA (t::(b++c)):=fun m r hm=>by
 show zC (m+1) (t::(b++c++r))=_
 rw [whA_cons hm om,h,IV,show m+2=(m+1)+1 by omega,hb (m+1) _ om];exact hc m r hm
theorem rcl_t {x:Rtm} (h:(rcl x).o=true):x.o=true:=by
 cases e:x.o with
 | true=>rfl
 | false=>rw [rcl_f e] at h;exact h
theorem tm_rd : ∀ (f : Nat) (a : List aX) (L : LU), L.length <= 19999 -> a.length <= 8 -> (eF f a L).o = true -> ∃ b, (eF f a L).ts = a ++ b /\ WhA b /\ ∀ t ∈ b, RdT t
 | f + 1, a, L, hL, h8, h => by
   unfold eF at h ⊢
   by_cases c0:eG L=0
   ·rw [if_pos c0] at h;exact IX (h)
   rw [if_neg c0] at h ⊢
   by_cases c8:a.length=8
   ·rw [if_pos c8] at h;exact IX (h)
   rw [if_neg c8] at h ⊢
   have hk:=lH L
   have q0:=gU L
   have q1:=hdR_len (eG L) (aN L)
   have hr:=hd_rd (k:=eG L) (L:=aN L) om om
   generalize zV (eG L) (aN L)=x at h q1 hr ⊢
   simp at h ⊢
   by_cases cx:x.o=false
   ·rw [if_pos cx] at h;exact IX (h)
   rw [if_neg cx] at h ⊢
   obtain ⟨ht,hkd⟩:=hr (by grind)
   have l1:(a++[x.t]).length=a.length+1:=by simp
   have one:∀ t∈[x.t],RdT t:=fun t e=>by grind
   by_cases c1:eG L=1\/eG L=2
   ·rw [if_pos c1] at h ⊢
    refine ⟨[x.t],(EK _).2,whA_0 (by rw [hkd];unfold lU;rw [if_pos c1]),one⟩
   rw [if_neg c1] at h ⊢
   have ih:=tm_rd f (a++[x.t]) x.l om om
   have tl:=vM f (a++[x.t]) x.l om
   by_cases c6:eG L=6
   ·rw [if_pos c6] at h ⊢
    generalize eF f (a++[x.t]) x.l=y at h ih tl ⊢
    by_cases cy:y.o=false
    ·rw [if_pos cy,cy] at h;exact IX (h)
    rw [if_neg cy] at h ⊢
    obtain ⟨b,hb,wb,rb⟩:=ih (by grind)
    by_cases cc:JX y.l [44]=false
    ·rw [if_pos cc] at h;exact IX (h)
    rw [if_neg cc] at h ⊢
    have q2:=dY y.l [44]
    obtain ⟨c,hc,wc,rc⟩:=tm_rd f y.ts (JW y.l [44]) om tl.2.1 (rcl_t h)
    refine ⟨x.t::(b++c),?_,whA_2 (by rw [hkd,c6];rfl) wb wc,fun t ht'=>?_⟩
    ·rw [(EK _).2,hc,hb];simp
    ·rcases List.mem_cons.1 ht' with e | e
     ·rw [e];exact ht
     ·exact (Jy.1 e).elim (rb t) (rc t)
   ·rw [if_neg c6] at h ⊢
    obtain ⟨b,hb,wb,rb⟩:=ih (rcl_t h)
    refine ⟨x.t::b,?_,whA_1 (by rw [hkd];unfold lU;rw [if_neg c1,if_pos om]) wb,fun t ht'=>?_⟩
    ·rw [(EK _).2,hb];simp
    ·rcases List.mem_cons.1 ht' with e | e
     ·rw [e];exact ht
     ·exact rb t e
theorem rd_whole {L:LU} (hL:L.length<=19999) (h:(eF 9 [] L).o=true):zC 1 (eF 9 [] L).ts=true/\(eF 9 [] L).ts.length<=8/\∀ t∈(eF 9 [] L).ts,RdT t:=by
 obtain ⟨b,hb,wb,rb⟩:=tm_rd 9 [] L hL dC h
 refine ⟨?_,(vM 9 [] L dC).2.1,by grind⟩
 rw [hb]
 have:=wb 0 [] (Int.le_refl 0)
 rw [Jc] at this
 exact this
theorem rd_mem {L:LU} (hL:L.length<=19999) (h:(eF 9 [] L).o=true) (he:us.map aX.er=(eF 9 [] L).ts):us.length<=8/\zC 1 us=true/\us.all aX.fw=true/\(∀ t∈us,t.Ok)/\TxS us:=by
 obtain ⟨h1,h2,h3⟩:=rd_whole hL h
 have hm:∀ t∈us,RdT t.er:=fun t ht=>h3 _ (he ▸ JE ht)
 refine ⟨by grind,?_,Jn.2 (fun t ht=>?_),fun t ht=>?_,fun t ht p hp=>?_⟩
 ·rw [<- map_wh (G:=aX.er) (fun _=>rfl),he];exact h1
 ·rw [<- fw_er];exact (hm t ht).2.1
 ·have := (hm t ht).1
  exact ⟨this.kd,this.m,this.nu,this.h⟩
 ·have k := (hm t ht).2.2 p.er (JE hp)
  have k1:=k.1.ps
  have k2:p.ps.length<=20000:=k.2
  have:=paT_len p.ps k1
  show (kpT p.k p.ps p.wd).length<=_
  unfold kpT
  rw [IL,IL,bD,zQ]
  split<;>simp<;>omega
def smS (W:LU):LU:=kU ((hL (l9 wS W)).take 4)
def pW (S:LU):LU:=S.take (S.length-9)
def prE (S:LU):Int :=
 if 16384<S.length then 4 else if S.length<9\/gB S (S.length-9)≠35 then 7 else if S.drop (S.length-8)≠smS (pW S) then 241 else
 if (eF 9 [] (pW S)).o=false then 260 else if uB (eF 9 [] (pW S)).ts≠pW S then 260 else if xJ (eF 9 [] (pW S)).ts=false then 260 else 0
def prT (S:LU):List aX:=if prE S=0 then (eF 9 [] (pW S)).ts else []
section
variable {S:List UInt8}
theorem pr_4 (h:16384<S.length):prE S=4:=by unfold prE;rw [if_pos h]
theorem pr_7 (h: ¬ 16384<S.length) (h1:S.length<9\/gB S (S.length-9)≠35):prE S=7:=by unfold prE;rw [if_neg h,if_pos h1]
variable (h: ¬ 16384<S.length) (h1: ¬ S.length<9) (h2:gB S (S.length-9)=35)
include h h1 h2
theorem pr_go:prE S=if S.drop (S.length-8)≠smS (pW S) then 241 else
 if (eF 9 [] (pW S)).o=false then 260 else if uB (eF 9 [] (pW S)).ts≠pW S then 260 else if xJ (eF 9 [] (pW S)).ts=false then 260 else 0:=by
 unfold prE
 rw [if_neg h,if_neg (fun q=>q.elim h1 (fun k=>k h2))]
theorem pr_sum (h3:S.drop (S.length-8)≠smS (pW S)):prE S=241:=by rw [pr_go h h1 h2,if_pos h3]
theorem pr_o (h3:S.drop (S.length-8)=smS (pW S)) (h4:(eF 9 [] (pW S)).o=false):prE S=260:=by rw [pr_go h h1 h2,if_neg (fun q=>q h3),if_pos h4]
theorem pr_b (h3:S.drop (S.length-8)=smS (pW S)) (h4:(eF 9 [] (pW S)).o=true) (he:us.map aX.er=(eF 9 [] (pW S)).ts) (h5:uB us≠pW S):prE S=260:=by
 rw [pr_go h h1 h2,if_neg (fun q=>q h3),if_neg (by grind),if_pos (by rw [<- bxB_er (he.trans (by rw [<- he,er_er]))];exact h5)]
theorem pr_v (h3:S.drop (S.length-8)=smS (pW S)) (h4:(eF 9 [] (pW S)).o=true) (he:us.map aX.er=(eF 9 [] (pW S)).ts) (h5:uB us=pW S) (h6:xJ us=false):prE S=260:=by
 rw [pr_go h h1 h2,if_neg (fun q=>q h3),if_neg (by grind),if_neg (by rw [<- bxB_er (he.trans (by rw [<- he,er_er]))];exact fun q=>q h5),if_pos (by rw [<- he,vl_er];exact h6)]
theorem pr_0 (h3:S.drop (S.length-8)=smS (pW S)) (h4:(eF 9 [] (pW S)).o=true) (he:us.map aX.er=(eF 9 [] (pW S)).ts) (h5:uB us=pW S) (h6:xJ us=true):prE S=0/\us.map aX.er=prT S:=by
 have e:prE S=0:=by rw [pr_go h h1 h2,if_neg (fun q=>q h3),if_neg (by grind),if_neg (by rw [<- bxB_er (he.trans (by rw [<- he,er_er]))];exact fun q=>q h5),if_neg (by rw [<- he,vl_er,h6];decide)]
 exact ⟨e,by unfold prT;rw [if_pos e];exact he⟩
end
theorem D9 {S:LU} (h:prE S≠0):prT S=[]:=by unfold prT;rw [if_neg h]
theorem iF.newR {w:JS} {c:Nat} {a:OA} {T:Nat->Prop} (h:iF w a c us) (ha:NwA n a) (hn:∀ t∈us,sV n t) (hT:∀ b,T b->b<n):bZ T (fun w=>iF w a c us) w :=
 iF.mkP h.le h.max (h.rows.uC (ha.ap hT)) (fun t ht=>wX.mkP (h.sub t ht).le (h.sub t ht).max ((h.sub t ht).rows.uC ((hn t ht).1.ap hT)) (fun p hp=>((h.sub t ht).sub p hp).uC (fun q hq h0 hb=>by
  have h1:=(hn t ht).2 p hp q hq h0
  have h2:=hT _ hb
  omega)) (h.sub t ht).ok) h.ok
end
variable {R:LU}
section
def BP (R:LU):Prop:=∃ r,R=44::r\/R=41::r
theorem Ha (h:BP R):∀ b,R.head? = some b->Dv b=false:=by
 obtain ⟨r,rfl | rfl⟩:=h<;>intro b hb<;>(obtain rfl:=Je.inj hb;decide)
theorem lJ (b:UInt8) (R:LU):JX (b::R) [b]=true/\JW (b::R) [b]=R:=pre_yes [b] R
theorem Dc {b c:UInt8} (h:b≠c):JX (c::R) [b]=false:=by
 show (b==c&&([]:LU).isPrefixOf R)=false
 rw [beq_eq_false_iff_ne.2 h];rfl
theorem stop_no (h:BP R) {b:UInt8} (h1:b≠44) (h2:b≠41):JX R [b]=false:=by
 obtain ⟨r,rfl | rfl⟩:=h
 ·exact Dc h1
 ·exact Dc h2
theorem Ia (hn:n<4294967296) (hR:∀ b,R.head? = some b->Dv b=false):uD (dS n++R)=true/\fP (dS n++R)=n/\dO (dS n++R)=R:=by
 obtain ⟨h1,h2⟩:=num_at hR
 have e:Lib.parseUintB 32 ((dS n++R).take (Ar (dS n++R)))=.ok n:=by rw [h1];exact pu_dS hn
 have ho:uD (dS n++R)=true:=by unfold uD;rw [e]
 refine ⟨ho,by unfold fP;rw [e],?_⟩
 rw [numL_t ho,h2]
theorem dS_star (n:Nat) (R:LU):JX (dS n++R) [42]=false:=by
 cases h:dS n with
 | nil=>exact absurd h (dS_ne n)
 | cons b r =>
   have hb:=dS_dig n b (by grind)
   have:42≠b:=fun e=>by rw [<- e] at hb;exact absurd hb dC
   exact Dc this
def wdT (wd:Bool):LU:=if wd=true then [47,42] else []
theorem nodg47 (R:LU):∀ b,((47:UInt8)::R).head? = some b->Dv b=false:=fun b hb=>by obtain rfl:=Je.inj hb;decide
theorem nodg104 (R:LU):∀ b,((104:UInt8)::R).head? = some b->Dv b=false:=fun b hb=>by obtain rfl:=Je.inj hb;decide
theorem Ei (i:Nat) (r:List Nat):EO (i::r)=sgT i++EO r:=rfl
theorem sgT_h {i:Nat} (h:2147483648<=i):sgT i=([47]++dS (i-2147483648))++[104]:=by exact if_pos h
theorem sgT_n {i:Nat} (h: ¬ 2147483648<=i):sgT i=[47]++dS i:=by exact if_neg h
theorem ex_h (D:LU):∃ q,([47]++D)++[104]=(47:UInt8)::q:=by simp
theorem sgT_47 (i:Nat):∃ q,sgT i=47::q:=by
 by_cases h:2147483648<=i
 ·rw [sgT_h h];exact ex_h _
 ·rw [sgT_n h];exact ⟨_,rfl⟩
theorem e_h (D T:LU):([47]++D)++[104]++T=47::(D++(104::T)):=by simp
theorem tail_hd {ps:List Nat} {wd:Bool} (hR:BP R):(∀ b,(EO ps++(wdT wd++R)).head? = some b->Dv b=false)/\JX (EO ps++(wdT wd++R)) [104]=false:=by
 cases ps with
 | nil =>
   cases wd with
   | false=>exact ⟨Ha hR,stop_no hR dC dC⟩
   | true=>exact ⟨nodg47 _,Dc dC⟩
 | cons i r =>
   obtain ⟨q,hq⟩:=sgT_47 i
   rw [Ei,hq]
   exact ⟨nodg47 _,Dc dC⟩
theorem st_bh {f:Nat} {a:List Nat} {T:LU} (hn:n<2147483648):AX (f+1) a (47::(dS n++(104::T)))=AX f (a++[n+2147483648]) T:=by
 obtain ⟨h1,h2⟩:=lJ 47 (dS n++(104::T))
 obtain ⟨n1,n2,n3⟩:=Ia (n:=n) om (nodg104 T)
 obtain ⟨h3,h4⟩:=lJ 104 T
 rw [AX,if_neg (by grind),h2,if_neg (by rw [dS_star];decide),if_neg (by grind),n2,if_neg om,n3,if_pos h3,h4]
theorem st_bn {f:Nat} {a:List Nat} {T:LU} (hn:n<2147483648) (t1:∀ b,T.head? = some b->Dv b=false) (t2:JX T [104]=false):AX (f+1) a (47::(dS n++T))=AX f (a++[n]) T:=by
 obtain ⟨h1,h2⟩:=lJ 47 (dS n++T)
 obtain ⟨n1,n2,n3⟩:=Ia (n:=n) om t1
 rw [AX,if_neg (by grind),h2,if_neg (by rw [dS_star];decide),if_neg (by grind),n2,if_neg om,n3,if_neg (by grind)]
theorem sgT_hh (n:Nat):sgT (n+2147483648)=([47]++dS n)++[104]:=by rw [sgT_h (Nat.le_add_left _ _),Nat.add_sub_cancel]
theorem app_one {a ps:List Nat} {x:Nat}:a++[x]++ps=a++x::ps:=by simp
theorem st_b1 {wd:Bool} {T:LU} {f:Nat} {a ps:List Nat} (ih:∀ a:List Nat,T.length<f->AX f a T=⟨true,a++ps,wd,R⟩) (hf:T.length<f) (hi:n<2147483648):AX (f+1) a (sgT (n+2147483648)++T)=⟨true,a++(n+2147483648)::ps,wd,R⟩:=by
 rw [sgT_hh,e_h,st_bh hi,ih _ hf,app_one]
theorem st_b0 {wd:Bool} {T:LU} {f:Nat} {a ps:List Nat} (ih:∀ a:List Nat,T.length<f->AX f a T=⟨true,a++ps,wd,R⟩) (hf:T.length<f) (hi:n<2147483648) (t1:∀ b,T.head? = some b->Dv b=false) (t2:JX T [104]=false):AX (f+1) a (sgT n++T)=⟨true,a++n::ps,wd,R⟩:=by
 rw [sgT_n om]
 show AX (f+1) a (47::(dS n++T))=_
 rw [st_bn hi t1 t2,ih _ hf,app_one]
theorem st_nil {wd:Bool} (hR:BP R) (f:Nat) (a:List Nat):AX (f+1) a (wdT wd++R)=⟨true,a,wd,R⟩:=by
 cases wd with
 | false =>
   show AX (f+1) a R=_
   rw [AX,if_pos (stop_no hR dC dC)]
 | true =>
   show AX (f+1) a (47::42::R)=_
   obtain ⟨h1,h2⟩:=lJ 47 (42::R)
   obtain ⟨h3,h4⟩:=lJ 42 R
   rw [AX,if_neg (by grind),h2,if_pos h3,h4]
theorem sgT_len1 (i:Nat):1<=(sgT i).length:=by
 obtain ⟨q,hq⟩:=sgT_47 i
 rw [hq];exact Nat.le_add_left _ _
theorem st_bi {wd:Bool} {T:LU} {i f:Nat} {a ps:List Nat} (ih:∀ a:List Nat,T.length<f->AX f a T=⟨true,a++ps,wd,R⟩) (hf:T.length<f) (hi:i<4294967296) (t1:∀ b,T.head? = some b->Dv b=false) (t2:JX T [104]=false):AX (f+1) a (sgT i++T)=⟨true,a++i::ps,wd,R⟩:=by
 rcases Nat.lt_or_ge i 2147483648 with h | h
 ·exact st_b0 ih hf h t1 t2
 ·obtain ⟨n, rfl⟩ := Nat.exists_eq_add_of_le' h
  exact st_b1 ih hf om
theorem st_back {wd:Bool} (hR:BP R) (ps:List Nat):∀ (f:Nat) (a:List Nat),(∀ i∈ps,i<4294967296)->(EO ps++(wdT wd++R)).length<f->AX f a (EO ps++(wdT wd++R))=⟨true,a++ps,wd,R⟩:=by
 induction ps with
 | nil =>
   intro f a _ hf
   obtain ⟨f,rfl⟩:∃ g,f=g+1:=⟨f-1,om⟩
   rw [Jc]
   exact st_nil hR f a
 | cons i ps ih =>
   intro f a hi hf
   obtain ⟨f,rfl⟩:∃ g,f=g+1:=⟨f-1,om⟩
   obtain ⟨t1,t2⟩:=tail_hd hR
   have ih:=fun a=>ih f a (fun x hx=>hi x (Jz _ hx))
   rw [Ei,IV] at hf ⊢
   have h1:=sgT_len1 i
   rw [IL] at hf
   exact st_bi ih om (hi i JH) t1 t2
theorem en_back1 {k:Ky} (hk:k.Ok) (h:wB k=true):Ba (uG k)=0/\iP (uG k)=k:=by
 by_cases hs:k.s=0
 ·exact en_back hk h hs
 obtain ⟨g0,g8,_,gs⟩:=EP h
 obtain ⟨gs1,gs2⟩:=gs.resolve_left hs
 have hl:lst k=k.s:=by unfold lst;rw [if_neg hs]
 have hf:flg k.s=1:=by unfold flg;rw [if_neg hs]
 have hd:mV k.d=k.d:=by
  unfold mV IntKind.wrap
  simp [IntKind.bits]
  omega
 have hB0:gB (uG k) 0=1:=by show (ob (flg k.s)).toNat=1;rw [hf];rfl
 have hB1:((gB (uG k) 1:Nat):Int)=k.d:=by
  show (((ob (mV k.d)).toNat:Nat):Int)=k.d
  rw [hd];exact ob_nat ⟨g0,om⟩
 have hi:=(rd_at (A:=uG k) (P:=[ob (flg k.s),ob (mV k.d)]) (w:=4) rfl rfl hk.i).2.2
 have hn:=(rd_at (A:=uG k) (P:=[ob (flg k.s),ob (mV k.d)]++fZ k.i 4) (w:=4) rfl rfl hk.n).2.2
 have hc:=(hs_at (A:=uG k) rfl rfl hk.c).1
 have hp:=(hs_at (A:=uG k) (by unfold uG;rw [hl,Jc]) rfl hk.s).1
 have hi:yQ (uG k) 2 4=k.i:=hi
 have hn:yQ (uG k) 6 4=k.n:=hn
 have hc:nU (uG k) 10=k.c:=hc
 have hp:nU (uG k) 42=k.s:=hp
 have h1: ¬ (1<gB (uG k) 0\/8<gB (uG k) 1):=om
 have hh:=dc_s1 (zQ k) h1 om (by rw [hp];exact (E5 gs1).2)
 refine ⟨hh.1,hh.2.trans ?_⟩
 rw [hi,hn,hc,hp,hB1,gs2]
theorem rb_back {B:LU} (hn:B.length=n) (h9:n<=1000):rbO n (kU B++R)=true/\lF n (kU B++R)=B/\wL n (kU B++R)=R:=by
 have hl:(kU B).length=2*n:=by rw [bD,hn]
 obtain ⟨e1,e2,e3⟩:=rb_t (n:=n) (L:=kU B++R) (by grind)
 rw [e1,e2,e3,<- hl,List.take_left,List.drop_left,hx_back_x om,hx_back_e om]
 exact ⟨rfl,rfl,rfl⟩
theorem rp_back {p:dB} (hp:p.Ok) (hs:wB p.k=true) (hR:BP R):iQ (p.tx++R)=⟨true,p.ps,p.wd,R⟩/\GL (p.tx++R)=p.er:=by
 have e:p.tx++R=kU (uG p.k)++(EO p.ps++(wdT p.wd++R)):=by
  show ((kU (uG p.k)++EO p.ps)++(if p.wd=true then [47,42] else []))++R=_
  simp;rfl
 rw [e]
 obtain ⟨b1,b2,b3⟩:=rb_back (R:=EO p.ps++(wdT p.wd++R)) (zQ p.k) dC
 obtain ⟨k1,k2⟩:=en_back1 hp.k hs
 have hr:iQ (kU (uG p.k)++(EO p.ps++(wdT p.wd++R)))=⟨true,p.ps,p.wd,R⟩:=by
  unfold iQ
  rw [if_neg (by grind),b2,if_neg om,b3,st_back hR p.ps _ [] hp.ps (Js _)];rfl
 refine ⟨hr,?_⟩
 unfold GL oV
 rw [hr,b2]
 rw [k2];rfl
theorem ks_back (ks:List dB):∀ (f:Nat) (a:List dB),(∀ p∈ks,p.Ok/\wB p.k=true)->(vZ ks++41::R).length<f->ksR f a (vZ ks++41::R)=⟨true,a++ks.map dB.er,41::R⟩:=by
 induction ks with
 | nil =>
   intro f a _ hf
   obtain ⟨f,rfl⟩:∃ g,f=g+1:=⟨f-1,om⟩
   show ksR (f+1) a (41::R)=_
   rw [ksR,if_pos (Dc dC),List.map_nil,Jc]
 | cons p ks ih =>
   intro f a hk hf
   obtain ⟨f,rfl⟩:∃ g,f=g+1:=⟨f-1,om⟩
   obtain ⟨hp,hs⟩:=hk p JH
   have ih:=ih f (a++[p.er]) (fun q hq=>hk q (Jz _ hq))
   have e:vZ (p::ks)++41::R=44::(p.tx++(vZ ks++41::R)):=by
    show (([44]++p.tx)++vZ ks)++_=_
    simp only [IV];rfl
   rw [e] at hf ⊢
   have hst:BP (vZ ks++41::R):=by
    cases ks with
    | nil=>exact ⟨R,Jq rfl⟩
    | cons q r=>exact ⟨q.tx++(vZ r++41::R),Jp (by show (([44]++q.tx)++vZ r)++_=_;simp only [IV];rfl)⟩
   obtain ⟨h1,h2⟩:=lJ 44 (p.tx++(vZ ks++41::R))
   obtain ⟨r1,r2⟩:=rp_back hp hs hst
   rw [ksR,h2,r1,r2,ih (by grind),IV];rfl
theorem kd_back {k:Int} (h:1<=k/\k<=6) (R:LU):eG (sN k++R)=k/\aN (sN k++R)=R:=by
 have e:eG (sN k++R)=k:=by
  rcases (by omega:k=1\/k=2\/k=3\/k=4\/k=5\/k=6) with rfl | rfl | rfl | rfl | rfl | rfl<;>rfl
 refine ⟨e,?_⟩
 unfold aN
 rw [e,if_neg om]
 exact (pre_yes _ _).2
structure VtT (t:aX):Prop where
 ok:t.Ok
 fd:t.fd=true
 ks:∀ p∈t.ks,p.Ok/\wB p.k=true
theorem hd_b1 {t:aX} (h:VtT t) (hk:t.kd=1):zV t.kd ((gK t.ks 0).tx++41::R)=⟨true,t.er,41::R⟩:=by
 have hF:=(xK _ _ _ _ _).1 h.fd
 unfold DY at hF
 obtain ⟨p,hp⟩:∃ p,t.ks=[p]:=by
  have:=hF.2.2.2.1 hk
  cases e:t.ks with
  | nil=>rw [e] at this;simp at this
  | cons p r=>rw [e] at this;exact ⟨p,by grind⟩
 obtain ⟨q1,q2⟩:=h.ks p (by grind)
 have e:gK t.ks 0=p:=by rw [hp];rfl
 obtain ⟨r1,r2⟩:=rp_back q1 q2 ⟨R,Jq rfl⟩
 rw [hd_1 hk,e,r1,r2]
 unfold aX.er tz
 rw [hp,show t.m=0 by omega,show t.nu=0 by omega,show t.h=0 by omega];rfl
theorem hd_b2 {t:aX} (h:VtT t) (hk:t.kd=2):zV t.kd (dS t.m.toNat++(vZ t.ks++41::R))=⟨true,t.er,41::R⟩:=by
 have hF:=(xK _ _ _ _ _).1 h.fd
 unfold DY at hF
 have h2:=hF.2.2.2.2.1 hk
 obtain ⟨p,r,hp⟩:∃ p r,t.ks=p::r:=by
  cases e:t.ks with
  | nil=>rw [e] at h2;simp at h2
  | cons p r=>exact ⟨p,r,rfl⟩
 have e:vZ t.ks++41::R=44::(p.tx++(vZ r++41::R)):=by
  rw [hp]
  show (([44]++p.tx)++vZ r)++_=_
  simp only [IV];rfl
 have hst:BP (vZ r++41::R):=by
  cases r with
  | nil=>exact ⟨R,Jq rfl⟩
  | cons q r=>exact ⟨q.tx++(vZ r++41::R),Jp (by show (([44]++q.tx)++vZ r)++_=_;simp only [IV];rfl)⟩
 obtain ⟨q1,q2⟩:=h.ks p (by grind)
 obtain ⟨n1,n2,n3⟩:=Ia (n:=t.m.toNat) (R:=44::(p.tx++(vZ r++41::R))) om (Ha ⟨_,Jp rfl⟩)
 obtain ⟨c1,c2⟩:=lJ 44 (p.tx++(vZ r++41::R))
 obtain ⟨r1,r2⟩:=rp_back q1 q2 hst
 unfold zV
 rw [e,if_neg om,if_pos hk,n2,n3,if_neg (by grind),c2,r1,r2,ks_back r _ _ (fun x hx=>h.ks x (by grind)) (Js _)]
 unfold aX.er tz
 rw [hp,show t.nu=0 by omega,show t.h=0 by omega,show ((t.m.toNat):Int)=t.m by omega];rfl
theorem hd_b3 {t:aX} (h:VtT t) (hk:t.kd=3\/t.kd=4):zV t.kd (dS t.nu++44::R)=⟨true,t.er,R⟩:=by
 have hF:=(xK _ _ _ _ _).1 h.fd
 unfold DY at hF
 obtain ⟨n1,n2,n3⟩:=Ia h.ok.nu (Ha ⟨_,Jp rfl⟩)
 obtain ⟨c1,c2⟩:=lJ 44 R
 rw [hd_n hk n1,n2,n3,c1]
 unfold aX.er tz
 rw [I7 (show t.ks.length=0 by omega),show t.m=0 by omega,show t.h=0 by omega];rfl
theorem hd_b5 {t:aX} (h:VtT t) (hk:t.kd=5):zV t.kd (kU (hL t.h)++44::R)=⟨true,t.er,R⟩:=by
 have hF:=(xK _ _ _ _ _).1 h.fd
 unfold DY at hF
 obtain ⟨n1,n2,n3⟩:=rb_back (aT t.h) dC
 obtain ⟨c1,c2⟩:=lJ 44 R
 rw [hd_h hk n1,n2,n3,List.take_of_length_le (by exact IK _),nB_hL h.ok.h]
 unfold aX.er tz
 rw [I7 (show t.ks.length=0 by omega),show t.m=0 by omega,show t.nu=0 by omega];rfl
theorem hd_b6 {t:aX} (h:VtT t) (hk:t.kd=6):zV t.kd R=⟨true,t.er,R⟩:=by
 have hF:=(xK _ _ _ _ _).1 h.fd
 unfold DY at hF
 rw [hd_6 hk]
 unfold aX.er tz
 rw [I7 (show t.ks.length=0 by omega),show t.m=0 by omega,show t.nu=0 by omega,show t.h=0 by omega];rfl
theorem tb_pre {t:aX} {B X:LU} (hk:1<=t.kd/\t.kd<=6) (hx:zV t.kd B=⟨true,t.er,X⟩):(eG (sN t.kd++B)==0)=false/\zV (eG (sN t.kd++B)) (aN (sN t.kd++B))=⟨true,t.er,X⟩/\eG (sN t.kd++B)=t.kd:=by
 obtain ⟨e1,e2⟩:=kd_back hk B
 rw [e1,e2]
 exact ⟨by grind,hx,rfl⟩
section
variable {f:Nat} {a:List aX} {t:aX} {B X:List UInt8} (hk:1≤t.kd∧t.kd≤6) (h8:a.length≠8) (hx:zV t.kd B=⟨true,t.er,X⟩)
include hk h8 hx
theorem tb_0 (hn:t.kd=1\/t.kd=2) (hX:X=41::R):eF (f+1) a (sN t.kd++B)=⟨true,a++[t.er],R⟩:=by
 obtain ⟨q1,q2,q3⟩:=tb_pre hk hx
 rw [tm_E1 q1 h8 q2 (by rw [q3];exact decide_eq_false (by unfold lU;rw [if_pos hn];decide)) (by rw [hX];exact (lJ 41 R).1),hX,(lJ 41 R).2]
theorem tb_1 {c:List aX} (hn:t.kd=3\/t.kd=4\/t.kd=5) (hy:eF f (a++[t.er]) X=⟨true,c,41::R⟩):eF (f+1) a (sN t.kd++B)=⟨true,c,R⟩:=by
 obtain ⟨q1,q2,q3⟩:=tb_pre hk hx
 have k1:lU t.kd=1:=by unfold lU;rw [if_neg om,if_pos hn]
 rw [tm_E2 q1 h8 q2 (by grind) (by grind) (by grind) (by rw [hy];exact (lJ 41 R).1),hy]
 rw [(lJ 41 R).2]
theorem tb_2 {Y:LU} {c d:List aX} (hn:t.kd=6) (hy:eF f (a++[t.er]) X=⟨true,c,44::Y⟩) (hz:eF f c Y=⟨true,d,41::R⟩):eF (f+1) a (sN t.kd++B)=⟨true,d,R⟩:=by
 obtain ⟨q1,q2,q3⟩:=tb_pre hk hx
 have k1:lU t.kd=2:=by rw [hn];rfl
 have hz':eF f c (JW (eF f (a++[t.er]) X).l [44])=⟨true,d,41::R⟩:=by rw [hy];exact hz
 rw [tm_E4 (Nm:=c) q1 h8 q2 (by grind) (by grind) (by rw [hy];exact (lJ 44 Y).1) (by grind) (by grind) (by rw [hz'];exact (lJ 41 R).1),hz']
 rw [(lJ 41 R).2]
end
theorem bx_back : ∀ (f : Nat) (s : Tq) (x : LU) (s' : Tq), bx f s = some (x, s') -> (∀ t ∈ s.ts, VtT t) ->
 ∃ pre,s.ts=pre++s'.ts/\1<=pre.length/\∀ (g:Nat) (a:List aX) (R:LU),a.length+pre.length<=8->9<=g+a.length->eF g a (x++R)=⟨true,a++pre.map aX.er,R⟩
 | f + 1, s, x, s', h, hv => by
   unfold bx at h
   split at h
   ·exact absurd h (by simp)
   have h0:0<s.ts.length:=om
   have ht:VtT s.fst:=hv _ (fH h0)
   have hsp:s.ts=s.fst::s.go.ts:=by
    cases e:s.ts with
    | nil=>rw [e] at h0;simp at h0
    | cons t r =>
      have e1:s.fst=t:=by unfold Tq.fst;rw [e];rfl
      have e2:s.go.ts=r:=by show s.ts.tail=r;rw [e];rfl
      rw [e1,e2]
   have hvg:∀ t∈s.go.ts,VtT t:=fun t ht=>hv t (by grind)
   have hN:∀ {g:Nat} {a:List aX},a.length+1<=8->9<=g+a.length->∃ g',g=g'+1/\a.length≠8/\9<=g'+(a++[s.fst.er]).length:=fun {g a} q1 q2=>by
    rw [IL,IU]
    exact ⟨g-1,om,om,om⟩
   split at h
   ·rename_i hk
    obtain ⟨rfl,rfl⟩:=h
    refine ⟨[s.fst],hsp,IK _,fun g a R q1 q2=>?_⟩
    obtain ⟨g',rfl,h8,_⟩:=hN om q2
    have e:lL (gK s.fst.ks 0)++R=sN s.fst.kd++((gK s.fst.ks 0).tx++41::R):=by
     rw [hk]
     show ((([107,101,121,40]:LU)++(gK s.fst.ks 0).tx)++[41])++R=([107,101,121]++[40])++_
     simp
    rw [e]
    exact tb_0 om h8 (hd_b1 ht hk) (Jp hk) rfl
   split at h
   ·rename_i hk
    obtain ⟨rfl,rfl⟩:=h
    refine ⟨[s.fst],hsp,IK _,fun g a R q1 q2=>?_⟩
    obtain ⟨g',rfl,h8,_⟩:=hN om q2
    have e:lM s.fst.m s.fst.ks++R=sN s.fst.kd++(dS s.fst.m.toNat++(vZ s.fst.ks++41::R)):=by
     rw [hk]
     show (((([109,117,108,116,105,40]:LU)++dS s.fst.m.toNat)++vZ s.fst.ks)++[41])++R=([109,117,108,116,105]++[40])++_
     simp
    rw [e]
    exact tb_0 om h8 (hd_b2 ht hk) (Jq hk) rfl
   split at h
   ·exact absurd h (by simp)
   rename_i k1 k2 _ xa s1 e1
   obtain ⟨p1,hp1,l1,r1⟩:=bx_back f _ _ _ e1 hvg
   have hv1:∀ t∈s1.ts,VtT t:=fun t ht=>hvg t (by grind)
   split at h
   ·rename_i hk
    split at h
    ·exact absurd h (by simp)
    rename_i xb s2 e2
    obtain ⟨p2,hp2,l2,r2⟩:=bx_back f _ _ _ e2 hv1
    obtain ⟨rfl,rfl⟩:=h
    refine ⟨s.fst::(p1++p2),by grind,by simp,fun g a R q1 q2=>?_⟩
    rw [IU,IL] at q1
    obtain ⟨g',rfl,h8,q3⟩:=hN om q2
    have la:(a++[s.fst.er]).length=a.length+1:=by simp
    have e:eiT xa xb++R=sN s.fst.kd++(xa++(44::(xb++41::R))):=by
     rw [hk]
     show ((((([101,105,116,104,101,114,40]:LU)++xa)++[44])++xb)++[41])++R=([101,105,116,104,101,114]++[40])++_
     simp
    rw [e,tb_2 om h8 (hd_b6 ht hk) hk (r1 g' (a++[s.fst.er]) (44::(xb++41::R)) om q3) (r2 g' _ (41::R) (by grind) (by grind))]
    simp
   · split at h
     ·rename_i hk
      have hk:s.fst.kd=3\/s.fst.kd=4\/s.fst.kd=5:=om
      obtain ⟨rfl,rfl⟩:=h
      refine ⟨s.fst::p1,by grind,by simp,fun g a R q1 q2=>?_⟩
      rw [IU] at q1
      obtain ⟨g',rfl,h8,q3⟩:=hN om q2
      have la:(a++[s.fst.er]).length=a.length+1:=by simp
      have ih:=r1 g' (a++[s.fst.er]) (41::R) om q3
      have fin:(⟨true,(a++[s.fst.er])++p1.map aX.er,R⟩:Rtm)=⟨true,a++(s.fst::p1).map aX.er,R⟩:=by simp
      rw [<- fin]
      by_cases c5:s.fst.kd=5
      ·have e : slT s.fst.kd s.fst.nu s.fst.h xa ++ R = sN s.fst.kd ++ (kU (hL s.fst.h) ++ 44 :: (xa ++ 41 :: R)) := by
        rw [c5]
        show ((((([104,97,115,104,40]:LU)++kU (hL s.fst.h))++[44])++xa)++[41])++R=([104,97,115,104]++[40])++_
        simp
       rw [e]
       exact tb_1 om h8 (hd_b5 ht c5) hk ih
      ·have e : slT s.fst.kd s.fst.nu s.fst.h xa ++ R = sN s.fst.kd ++ (dS s.fst.nu ++ 44 :: (xa ++ 41 :: R)) := by
        rcases (by omega:s.fst.kd=3\/s.fst.kd=4) with c | c
        ·rw [c]
         show ((((([97,102,116,101,114,40]:LU)++dS s.fst.nu)++[44])++xa)++[41])++R=([97,102,116,101,114]++[40])++_
         simp
        ·rw [c]
         show ((((([111,108,100,101,114,40]:LU)++dS s.fst.nu)++[44])++xa)++[41])++R=([111,108,100,101,114]++[40])++_
         simp
       rw [e]
       exact tb_1 om h8 (hd_b3 ht om) hk ih
     ·exact absurd h (by simp)
theorem vt_of (hv:xJ ts=true) (ho:qZ ts):∀ t∈ts,VtT t:=fun t ht=>by
 obtain ⟨_,_,hf,hk⟩:=Gh hv
 refine ⟨(ho t ht).1,Jn.1 hf t ht,fun p hp=>⟨(ho t ht).2 p hp,?_⟩⟩
 have h1:=Jn.1 hk t ht
 have h2:=Jn.1 h1 p hp
 unfold dB.vp at h2
 simp at h2
 exact h2.2.1
theorem bxB_go (hv:xJ ts=true):∃ s',bx 8 ⟨none,0,ts⟩=some (uB ts,s')/\s'.ts=[]:=by
 obtain ⟨hl,hw,hf,_⟩:=Gh hv
 obtain ⟨x,s',hx,w1,_⟩:=bx_ok 8 1 ⟨none,0,ts⟩ hl.2 dC hw (fds_fws hf)
 obtain ⟨s2,h2⟩:=bx_go hv none 0
 rw [hx] at h2
 refine ⟨s',by grind,?_⟩
 cases e:s'.ts with
 | nil=>rfl
 | cons t r=>rw [e] at w1;simp [zC] at w1
theorem read_back (hv:xJ ts=true) (ho:qZ ts):eF 9 [] (uB ts)=⟨true,ts.map aX.er,[]⟩:=by
 obtain ⟨s',h1,h2⟩:=bxB_go hv
 obtain ⟨pre,q1,q2,q3⟩:=bx_back 8 _ _ _ h1 (vt_of hv ho)
 have hp:pre=ts:=by grind
 have:=q3 9 [] [] (by rw [hp];have:=(Gh hv).1;simpa using this.2) dC
 rw [Jc] at this
 rw [this,hp];rfl
end
abbrev aU:=fun p0=>(.string (dH p0):JR)
abbrev kD:=fun p0=>(.string p0:JR)
abbrev bG:=fun p0 p1=>pt (nb p0 p1)
abbrev jD:=fun p0 p1 p2 p3 p4=>mQ p0 (nb p1 p2) (cL p3 p4)
abbrev dJ:=fun p0=>(.int .u64 p0:JR)
abbrev fB:=fun p0 p1 p2 p3=>nw p0 p1 (cL p2 p3)
abbrev mF:=fun p0 p1 p2 p3=>mQ p0 (nb p1 p0) (cL p2 p3)
abbrev bU:=fun p0=>(.int .u8 p0:JR)
abbrev pO:=fun p0 p1 p2 p3=>[(p0,(fB p1 p0 p2 p3))]
abbrev DI:=fun p0 p1 p2 p3=>vs (nb p0 p1) (p2:LU).length p3
abbrev qy159:=fun p0 p1 p2 p3=>(.tuple #[U (wY p0 p1 p2),U (rZ p0 p1 p2),p3]:JR)
abbrev yY:=fun p0=>cL (cU p0) 54
theorem rtext_any (A:Nat) (hA:A<M) (w0:JS):Calls prog 74 #[U A] w0 (jR (kD (dH (dS A))) w0):=by
 refine Calls.cW 27 (fun _=>True) func74 rfl rfl rfl jT (sS f74 2 [1,2] [] (fun r=>[bG r 0,kD ⟨#[]⟩]) (fun r=>(pO 0 r (cU A) 54)) (jX 2) (fun r1=>jJ f74 1 [1,2,3] [kD ⟨#[]⟩] (aJ ?_)))
 refine oL (σ:=Nat × Nat) (fun ⟨i,_⟩=>[(1,(bG r1 0)),(3,(aU (dgL A i)))]) (fun ⟨_,a⟩=>[(nb r1 0,(yY a))]) (fun ⟨i,_⟩=>78-i)
  (fun ⟨i,a⟩=>(i<78)/\(a=A / 10^i)/\(a<M)/\(i=0\/A / 10^i≠0)) (0,A) (⟨by decide,(Nat.div_one A).symm,hA,Jp rfl⟩) [] ?_
 rintro ⟨i,a⟩ ⟨hi,ha,haM,hz⟩
 refine aJ (sD f74 [0,0,0,7,15,31,31,31,0,0,831,1919,4095] 13 [1,3,4,5] [] (fun r=>let qa:JR:=.bool (decide (0<10));[U 0,U a,U 10,qy159 0 a 10 qa,qy159 0 a 10 qa,U (wY 0 a 10),U (rZ 0 a 10),qa,bG r 8,bG r 9,JQ,JQ,qa]) (fun r=>[(8,(fB r 8 (cU 0) 54)),(9,(fB r 9 (cU 0) 54)),(10,(jD 65 r 8 (cU (wY 0 a 10)) 54)),(11,(jD 73 r 9 (cU (rZ 0 a 10)) 54))]) (cR [[],[0]]<|cC (fun _ w=>lZ 10 w dC)<|cC (fun _ w=>rdiv_any 0 a 10 w dK haM dK)<|jE [[],[],[],[],[],[],[65],[73],[]]) (fun r3=>sS f74 9 [1,3,4] [1,1,0,0] (fun r=>let qa:=([ob (dgt A i)]:LU);[bG r3 9,dJ (wd (rZ 0 a 10) 0),dJ (IQ.wrap (48+(wd (rZ 0 a 10) 0))),bU (dgt A i),vs (nb r 4) qa.length 1,aU qa,aU (dgL A i),aU (qa++(dgL A i)),aU (qa++(dgL A i))]) (fun r=>[(4,(nw r 4 (cL #[bU (dgt A i)] 5)))]) (cR [[],[2],[]]<|eU (bU (dgt A i)) (congrArg (IM .u8) (dgt_wrap ha))<|jY 1<|cX (o_semF _ (fun r=>do pure (I5 (<- convert 35 9 (DI r 4 [ob (dgt A i)] 1)))) (fun _=>(aU ([ob (dgt A i)]:LU))) (fun _=>kr) (fun _=>kr) (fun r _ _ hG=>CE (xs:=([ob (dgt A i)]:LU)) underlying35 underlying5 underlying9 (Bs.o7 (hG.kn (g:=nb r 4) (o:=(cL #[bU (dgt A i)] 5)) 35) (hd1 (dgt_rng A i)) (IK 1) lb) rfl) (fun _ _ _ _=>iD))<|jY 1<|jC ([ob (dgt A i)]:LU) (dgL A i) 9 (by rw [dgL_length];simp only [IU,IP];omega)<|jX 1) (fun _=>aY f74 2 [1,3] [1,0] [U (wY 0 a 10),JQ] [(1,(mF 0 r1 (cU (wY 0 a 10)) 54))] (jE [[1],[0]]) (aY f74 2 [1,3,25] [] [U (wY 0 a 10),.bool (decide (wY 0 a 10=0))] [] (cR [[0]]<|cC (f:=64) (args:=fun r=> #[U (wY 0 a 10)]) (v:=fun r=>(.bool (decide (wY 0 a 10=0)))) (fun _ w=>(fun w=>o9 (wY 0 a 10) w (divQ_lt _ _ _ haM)) w)<|cN) (oC (decide (wY 0 a 10=0)) (fun b1=>?_) (fun b1=>?_))))))
 ·rw [b1]
  refine jJ f74 2 [1,2,3] (let qa:=dH (([ob (dgt A i)]:LU)++(dgL A i));[kD qa,kD qa]) (aG (aQ (aB (aQ ?_))))
  exact mR (v:=(aU (([ob (dgt A i)]:LU)++(dgL A i)))) (fun _ hS=>⟨congrArg (fun x=>IJ (aU x)) (dgL_end hz (by rw [<- H6 ha];exact yT b1)),hS.dM⟩)
 rw [b1]
 refine aI (aH ?_)
 exact mN (i+1,wY 0 a 10) (by show 78-(i+1)<78-i;omega) (⟨dgt_few hA (by rw [<- H6 ha];exact yF b1),H6 ha,divQ_lt _ _ _ haM,Jq (by rw [<- H6 ha];exact yF b1)⟩) []
section
open Go Go.Shelf Go.Proofs
def lays283_ren:Go.Shelf.Ren:=⟨fun | 283=>95 | n=>n,fun | 3=>3 | 9=>9 | 4=>4 | n=>n,fun | n=>n⟩
theorem lays283:Go.Proofs.Lays.n283 prog lays283_ren:={
 mixed:=by kernel_rfl
 f283:=func95.trans (congrArg some (by kernel_rfl))
 t3:=underlying3
 a3:=isAgg3
 z3:=sizeOf3
 v3:=zeroValue3
 t4:=underlying4
 a4:=isAgg4
 z4:=sizeOf4
 v4:=zeroValue4
 t9:=underlying9
 a9:=isAgg9
 z9:=sizeOf9
 v9:=zeroValue9}
def laysM284_ren:Go.Shelf.Ren:=⟨fun | 284=>96 | 129=>131 | 317=>130 | 318=>132 | n=>n,fun | 53=>52 | 3=>3 | 212=>163 | 0=>0 | 4=>4 | 46=>87 | 5=>5 | 9=>9 | n=>n,fun | 17=>2 | n=>n⟩
theorem laysM284:Go.Proofs.LaysM.n284 prog laysM284_ren:={
 mixed:=by kernel_rfl
 f129:=func131.trans (congrArg some (by kernel_rfl))
 f284:=func96.trans (congrArg some (by kernel_rfl))
 f317:=func130.trans (congrArg some (by kernel_rfl))
 f318:=func132.trans (congrArg some (by kernel_rfl))
 t0:=underlying0
 a0:=isAgg0
 z0:=sizeOf0
 v0:=zeroValue0
 t3:=underlying3
 a3:=isAgg3
 z3:=sizeOf3
 v3:=zeroValue3
 t4:=underlying4
 a4:=isAgg4
 z4:=sizeOf4
 v4:=zeroValue4
 t5:=underlying5
 a5:=isAgg5
 z5:=sizeOf5
 v5:=zeroValue5
 t9:=underlying9
 a9:=isAgg9
 z9:=sizeOf9
 v9:=zeroValue9
 t46:=underlying87
 a46:=isAgg87
 z46:=sizeOf87
 v46:=zeroValue87
 t53:=underlying52
 a53:=isAgg52
 z53:=sizeOf52
 v53:=zeroValue52
 t212:=underlying163
 a212:=isAgg163
 z212:=sizeOf163
 v212:=zeroValue163
 g17:=by kernel_rfl
 i0:=by kernel_rfl
 i3:=by kernel_rfl
 i4:=by kernel_rfl
 i5:=by kernel_rfl
 i9:=by kernel_rfl
 i46:=by kernel_rfl
 i53:=by kernel_rfl
 i212:=by kernel_rfl
 m17:=by kernel_rfl}
def lays285_ren:Go.Shelf.Ren:=⟨fun | 285=>97 | n=>n,fun | 37=>35 | 53=>52 | 3=>3 | 4=>4 | 51=>45 | 9=>9 | 5=>5 | 0=>0 | n=>n,fun | n=>n⟩
theorem lays285:Go.Proofs.Lays.n285 prog lays285_ren:={
 mixed:=by kernel_rfl
 f285:=func97.trans (congrArg some (by kernel_rfl))
 t0:=underlying0
 a0:=isAgg0
 z0:=sizeOf0
 v0:=zeroValue0
 t3:=underlying3
 a3:=isAgg3
 z3:=sizeOf3
 v3:=zeroValue3
 t4:=underlying4
 a4:=isAgg4
 z4:=sizeOf4
 v4:=zeroValue4
 t5:=underlying5
 a5:=isAgg5
 z5:=sizeOf5
 v5:=zeroValue5
 t9:=underlying9
 a9:=isAgg9
 z9:=sizeOf9
 v9:=zeroValue9
 t37:=underlying35
 a37:=isAgg35
 z37:=sizeOf35
 v37:=zeroValue35
 t51:=underlying45
 a51:=isAgg45
 z51:=sizeOf45
 v51:=zeroValue45
 t53:=underlying52
 a53:=isAgg52
 z53:=sizeOf52
 v53:=zeroValue52}
def lays171_ren:Go.Shelf.Ren:=⟨fun | 171=>43 | 243=>70 | 246=>94 | 283=>95 | 284=>96 | 285=>97 | 286=>98 | 129=>131 | 317=>130 | 318=>132 | 319=>133 | 320=>134 | 337=>165 | 338=>166 | n=>n,fun | 3=>3 | 9=>9 | 2=>2 | 4=>4 | 171=>134 | 0=>0 | 53=>52 | 37=>35 | 5=>5 | 173=>137 | 212=>163 | 51=>45 | 20=>20 | 213=>164 | 46=>87 | 232=>46 | 233=>113 | n=>n,fun | 17=>2 | 18=>5 | 19=>6 | n=>n⟩
theorem lays171:Go.Proofs.Lays.n171 prog lays171_ren:={
 mixed:=by kernel_rfl
 f129:=func131.trans (congrArg some (by kernel_rfl))
 f171:=func43.trans (congrArg some (by kernel_rfl))
 f243:=func70.trans (congrArg some (by kernel_rfl))
 f246:=func94.trans (congrArg some (by kernel_rfl))
 f283:=func95.trans (congrArg some (by kernel_rfl))
 f284:=func96.trans (congrArg some (by kernel_rfl))
 f285:=func97.trans (congrArg some (by kernel_rfl))
 f286:=func98.trans (congrArg some (by kernel_rfl))
 f317:=func130.trans (congrArg some (by kernel_rfl))
 f318:=func132.trans (congrArg some (by kernel_rfl))
 f319:=func133.trans (congrArg some (by kernel_rfl))
 f320:=func134.trans (congrArg some (by kernel_rfl))
 f337:=func165.trans (congrArg some (by kernel_rfl))
 f338:=func166.trans (congrArg some (by kernel_rfl))
 t0:=underlying0
 a0:=isAgg0
 z0:=sizeOf0
 v0:=zeroValue0
 t2:=underlying2
 a2:=isAgg2
 z2:=sizeOf2
 v2:=zeroValue2
 t3:=underlying3
 a3:=isAgg3
 z3:=sizeOf3
 v3:=zeroValue3
 t4:=underlying4
 a4:=isAgg4
 z4:=sizeOf4
 v4:=zeroValue4
 t5:=underlying5
 a5:=isAgg5
 z5:=sizeOf5
 v5:=zeroValue5
 t9:=underlying9
 a9:=isAgg9
 z9:=sizeOf9
 v9:=zeroValue9
 t20:=underlying20
 a20:=isAgg20
 z20:=sizeOf20
 v20:=zeroValue20
 t37:=underlying35
 a37:=isAgg35
 z37:=sizeOf35
 v37:=zeroValue35
 t46:=underlying87
 a46:=isAgg87
 z46:=sizeOf87
 v46:=zeroValue87
 t51:=underlying45
 a51:=isAgg45
 z51:=sizeOf45
 v51:=zeroValue45
 t53:=underlying52
 a53:=isAgg52
 z53:=sizeOf52
 v53:=zeroValue52
 t171:=underlying134
 a171:=isAgg134
 z171:=sizeOf134
 v171:=zeroValue134
 t173:=underlying137
 a173:=isAgg137
 z173:=sizeOf137
 v173:=zeroValue137
 t212:=underlying163
 a212:=isAgg163
 z212:=sizeOf163
 v212:=zeroValue163
 t213:=underlying164
 a213:=isAgg164
 z213:=sizeOf164
 t232:=underlying46
 a232:=isAgg46
 z232:=sizeOf46
 v232:=zeroValue46
 t233:=underlying113
 a233:=isAgg113
 z233:=sizeOf113
 v233:=zeroValue113
 g17:=by kernel_rfl
 g18:=by kernel_rfl
 g19:=by kernel_rfl}
open Go.RowKit Go.Sort Go.Lib
theorem smallS (i:Nat) (h:i<100) (w:JS):Calls prog 95 #[.int .i64 i] w fun e w'=>e=.returned (.string ⟨(Jo i).toArray⟩)/\w'=w:=Any.internal_strconv_small lays283 i h w
theorem numDigitsS (u:Nat) (h1:1<=u) (h2:u<18446744073709551616) (w:JS) (htab:Lib.TabIs prog w "internal/strconv.uint64pow10" .u64 JK) :
 Calls prog 96 #[.int .u64 u] w fun e w'=>e=.returned (.int .i64 (I8 u))/\w'=w:=Any.internal_strconv_numDigits laysM284 u h1 h2 w htab
theorem formatS (AY off cap u:Nat) (d:Array UInt8) (w:JS) (hH:Holds (fun (b:UInt8)=>IM .u8 (b.toNat:Int)) w AY off d) (hu:u<10^d.size) (hu64:u<18446744073709551616) (hsz:d.size<4611686018427387904) :
 Calls prog 97 #[.slice (some ⟨AY,off,none⟩) d.size cap,.int .u64 u] w fun e w' =>
  e=.returned (.tuple #[])/\∃ (n v':Nat) (dk:Array UInt8),w'=(putRow (fun (b:UInt8)=>IM .u8 (b.toNat:Int)) w AY off dk).drewN n/\FmtInv d.size u 0 v' dk:=Any.internal_strconv_formatBase10 lays285 AY off cap u d w hH hu hu64 hsz
end
section
open Go Go.Shelf Go.RowKit Go.Sort Go.Lib
theorem holds_zero0 (w:JS) (T:JV) (nd:Nat) (hs:nd<=24):Holds (fun (b:UInt8)=>IM .u8 (b.toNat:Int)) (w.alloc (.cells zeros24 T)) w.heap.size 0 (Array.replicate nd (0:UInt8)):=fun j hj=>by
 have hj':j<nd:=by simpa using hj
 refine ⟨?_,World.frozen?_alloc_new _ _ _ _⟩
 rw [World.cell?_alloc_new,zeros24_at _ om,getElem!_pos _ j hj]
 simp
theorem fin_pos0 (w:JS) (o:Obj) (dk:Array UInt8) (k:Nat):∃ os,(putRow (fun (b:UInt8)=>IM .u8 (b.toNat:Int)) (w.alloc o) w.heap.size 0 dk).drewN k=Go.Sort.grow (w.drewN k) os:=by
 rw [alloc_eq_grow]
 obtain ⟨os',_,e⟩:=putRow_grow_new (fun (b:UInt8)=>IM .u8 (b.toNat:Int)) w #[o] w.heap.size 0 dk (IK _)
 exact ⟨os',by rw [e];rfl⟩
set_option maxHeartbeats 6400000 in
theorem fmtU_any (u : Nat) (hu64 : u < 18446744073709551616) (w : JS) (htab : Lib.TabIs prog w "internal/strconv.uint64pow10" .u64 JK) :
 Calls prog 71 #[.int .u64 u,.int .i64 10] w fun e w'=>e=.returned (.string ⟨(Jo u).toArray⟩)/\Below w.heap.size w w':=by
 by_cases hs:u<100
 ·go_enter func71, Tryz.ntmps71
  go_wp2_with (go_at_call 95;refine (smallS u hs _).mono ?_;rintro e w' ⟨rfl,rfl⟩)
  go_ret
  exact ⟨rfl,Below.refl _ _⟩
 ·have hu1 : 1 <= u := by omega
  have hnd20:I8 u<=20:=by have:=Lib.numDigits_eq u hu1 hu64;split at this<;>omega
  have hb3:I8 u<=24:=by omega
  have hal:prog.arrayLen 134=24:=by kernel_rfl
  have hsl1:∀ W,(Instr.sliceAt 134 (.pointer (some ⟨w.heap.size,0,none⟩)) none (some (.int .i64 (I8 u:Int))) none).run prog W=.ok (.slice (some ⟨w.heap.size,0,none⟩) (I8 u) 24) W:=fun W=>by
   rw [run_sliceAt_array_h W 134 ⟨w.heap.size,0,none⟩ (by kernel_rfl) .i64 (I8 u:Int) om (by rw [hal];omega)]
   go_simp
  have hH0:=holds_zero0 w 134 (I8 u) om
  have hfmt:=formatS w.heap.size 0 24 u (Array.replicate (I8 u) 0) (w.alloc (.cells Jr 134)) hH0 (by rw [Ja];exact Lib.lt_pow_nDigits u) hu64 (by rw [Ja];omega)
  rw [Ja] at hfmt
  have HH0:=JB hH0
  clear hH0 hal
  go_enter func71,Tryz.ntmps71
  go_wp2_with (first
   | (go_at_call 96;refine (numDigitsS u hu1 hu64 _ (Lib.tabIs_alloc htab _)).mono ?_;rintro e w' ⟨rfl,rfl⟩))
  go_at_call 97
  refine hfmt.mono ?_
  rintro e w' ⟨rfl,k,v',dk,rfl,hF⟩
  have hcv:(convert 35 9 (.slice (some ⟨w.heap.size,0,none⟩) (I8 u) 24)).run prog ((putRow (fun (b:UInt8)=>IM .u8 (b.toNat:Int)) (w.alloc (.cells Jr 134)) w.heap.size 0 dk).drewN k)=.ok (.string ⟨(Jo u).toArray⟩) ((putRow (fun (b:UInt8)=>IM .u8 (b.toNat:Int)) (w.alloc (.cells Jr 134)) w.heap.size 0 dk).drewN k):=by
   have h:=run_convert_bytes_back (P:=prog) ((putRow (fun (b:UInt8)=>IM .u8 (b.toNat:Int)) (w.alloc (.cells Jr 134)) w.heap.size 0 dk).drewN k) 35 9 5 ⟨w.heap.size,0,none⟩ 24 (Jo u) underlying35 underlying5 underlying9 (fun j hj=>by
    rw [Lib.row_is_numeral hF j hj,Lib.add_plain,World.cell?_drewN]
    exact cell?_putRow (fun (b:UInt8)=>IM .u8 (b.toNat:Int)) _ w.heap.size 0 _ dk HH0.out (by rw [hF.size,Ja]) j (by rw [hF.size];rw [JA] at hj;exact hj))
   rw [JA] at h
   exact h
  go_wp2
  go_ret
  obtain ⟨os,eo⟩:=fin_pos0 w (.cells Jr 134) dk k
  refine ⟨rfl,?_⟩
  have hb:=Lib.below_grow w.heap.size w (IK _) k os
  rw [<- eo] at hb
  exact hb
theorem fmt_any (u:Nat) (hu64:u<18446744073709551616) (w:JS) (htab:Lib.TabIs prog w "internal/strconv.uint64pow10" .u64 JK) :
 Calls prog 44 #[.int .u64 u,.int .i64 10] w fun e w'=>e=.returned (.string ⟨(Jo u).toArray⟩)/\Below w.heap.size w w':=by
 go_enter func44,Tryz.ntmps44
 go_wp2_with (go_at_call 71;refine (fmtU_any u hu64 _ htab).mono ?_;rintro e w' ⟨rfl,hb⟩)
 go_ret
 exact ⟨rfl,hb⟩
end
abbrev gW {α:Type} (p1:List α):=fun p0 p2=>(.slice p0 p1.length p2:JR)
abbrev bH:=fun p0 p1 p2=>jp (nb p0 p1) p2
abbrev rF:=fun p0 p1 p2=>(some ⟨nb p0 p1,p2,none⟩:Option Addr)
abbrev fE {α:Type} (p1:List α):=fun p0 p2=>vs p0 p1.length p2
abbrev rP:=fun p0=>(.int .u64 p0:JR)
abbrev DN:=fun p0 p1=>vy (8*p0 / 2^(56-8*p1)%256)
abbrev qy205:=fun p0 p1=>vx (8*p0 / 2^(56-8*p1))
abbrev FN:=fun p0 p1 p2=>cL (lK p0 p1 (bs (p2:LU))) 5
theorem pad_any (n:Nat) (hn:n<=140737488351232) (w0:JS):Calls prog 76 #[vx n] w0 (fun ε w'=>∃ α κ,ε=.returned (gW (dE n) α κ)/\jG w0 w'/\Fs w0 w' α κ (dE n)):=by
 refine Calls.cW 33 (fun _=>True) func76 rfl rfl rfl jT (jJ f76 1 [0,2] [vz] (aY f76 6 [0,2,3] [] [vx n,vx (n+9),vx ((n+9)%64),vx (64-((n+9)%64)),vx (fG n),vx (fG n)] [] (jY 1<|cA (v:=fun r=>(dJ (IQ.wrap ((n:Int)+9)))) (fun _=>(vx (n+9))) (fun _=>congrArg (IM .u64) (Es n 9 (oA (aV n))))<|cB (a:=fun r=>(vx (n+9))) (b:=fun r=>(rP 64)) (v:=fun r=>(vx ((n+9)%64))) .rem 52 (fun _ w=>xC (k:=.u64) (n:=(n+9)) (d:=64) dC w)<|cA (v:=fun r=>(dJ (IQ.wrap (64-(((n+9)%64:Nat):Int))))) (fun _=>(vx (64-((n+9)%64)))) (fun _=>congrArg (IM .u64) (u64_subN 64 ((n+9)%64) (oA (aV n)) (oA (aV n))))<|cB (a:=fun r=>(vx (64-((n+9)%64)))) (b:=fun r=>(rP 64)) (v:=fun r=>(vx (fG n))) .rem 52 (fun _ w=>xC (k:=.u64) (n:=64-(n+9)%64) (d:=64) dC w)<|jX 1) (sS f76 6 [0,2,4] [] (fun r=>let qa:=vs (nb r 4) (IZ (fG n+1) (0:UInt8)).length (9+(fG n));[vx (fG n),vx (fG n+1),vx (fG n),vx (9+(fG n)),qa,qa]) (fun r=>(pO 4 r (zB (9+(fG n))) 5)) (jY 1<|cA (v:=fun r=>(dJ (IQ.wrap (1+(fG n:Int))))) (fun _=>(vx (fG n+1))) (fun _=>congrArg (IM .u64) ((Es 1 (fG n) (oA (aV n))).trans om))<|jY 1<|cA (v:=fun r=>(dJ (IQ.wrap (9+(fG n:Int))))) (fun _=>(vx (9+(fG n)))) (fun _=>congrArg (IM .u64) (Es 9 (fG n) (oA (aV n))))<|cX (Eg _ (fun _=>do pure (I5 (<- Instr.makeSlice 35 (vx (fG n+1)) (vx (9+(fG n)))))) (fun _ ζ=>(fE (IZ (fG n+1) (0:UInt8)) (ζ.headD 0) (9+(fG n)))) (fun _ _=>(cL (zB (9+(fG n))) 5)) (fun _ _=>kr) (fun _=>kr) tV (fun _ _ w _=>yH underlying35 uT (IZ (fG n+1) (0:UInt8)) ((rfl).trans (by rw [Jl])) (rfl) (by have:=hn;have:=aV n;rw [Jl];omega) (oA (aV n)) w))<|jX 1) (fun r3=>aY f76 3 [0,2,4] [] [fE (IZ (fG n+1) (0:UInt8)) (nb r3 4) (9+(fG n)),bH r3 4 0,JQ] [(2,(jD 0 r3 4 ((zB (9+fG n)).setIfInBounds 0 (bU 128)) 5))] (jY 1<|qSc (Bz (g:=nb r3 4) (c:=9+(fG n)) (k:=.i64) underlying35 uT (show 0=((0:Nat):Int) from rfl) (show 0<(IZ (fG n+1) (0:UInt8)).length from (by have:=hn;have:=aV n;rw [Jl];omega)))<|CW 0 5 (nb r3 4) 0 (zB (9+(fG n))) ((zB (9+fG n)).setIfInBounds 0 (bU 128)) 5 (bU 128) sizeOf5 (by rw [zT];omega) rfl<|cN) (aC (jJ f76 1 [0,2,4,18] [vi 0] (aJ ?_)))))))
 refine oL (σ:=Nat × (LU) × (Array JR)) (fun ⟨i,X,_⟩=>[(0,(vx n)),(2,vz),(4,(vs (nb r3 4) X.length (9+fG n))),(18,(vn i))]) (fun ⟨_,_,C⟩=>[(nb r3 4,(cL C 5))]) (fun ⟨i,_,_⟩=>8-i)
  (fun ⟨i,X,C⟩=>(i<=8)/\(X=128::(IZ (fG n) 0++be8 (8*n) i))/\(Hd C X)/\(C.size=9+fG n)) (0,128::IZ (fG n) (0:UInt8),(zB (9+fG n)).setIfInBounds 0 (bU 128)) (⟨by decide,by simp [be8],pad_hd0 n,by rw [Array.size_setIfInBounds,zT]⟩) [] ?_
 rintro ⟨i,X,C⟩ ⟨hi,hX,hC,hs⟩
 refine jJ f76 1 [0,2,4,18,19] [.bool (decide ((i:Int)<8))] (aC (oC (decide ((i:Int)<8)) (fun h1=>?_) (fun h1=>?_)))
 ·rw [h1]
  have:=yT h1
  refine aI (aA (aC (aJ (jJ f76 2 [0,2,4,5,18] [vn i,vn i] (rS f76 11 [0,2,4,18] [1,0] (fun r=>let qa:=([ob ((8*n / 2^(56-8*i)%256:Nat):Int)]:LU);let qb:=vs (nb r3 4) (X++qa).length (9+fG n);[vs (nb r3 4) X.length (9+fG n),vx n,vx (8*n),vn i,vn (8*i),vn (56-8*i),qy205 n i,DN n i,vs (nb r 8) qa.length 1,qb,qb]) (fun r=>[(8,(nw r 8 (cL #[DN n i] 5))),(9,(jD 0 r3 4 (lK C X.length (bs ([ob ((8*n / 2^(56-8*i)%256:Nat):Int)]:LU))) 5))]) (jY 2<|cA (v:=fun r=>(dJ (IQ.wrap (8*(n:Int))))) (fun _=>(vx (8*n))) (fun _=>congrArg (IM .u64) (u64_mulN 8 n (oB (aV n) (iZ hX))))<|jY 1<|oD (nG 8 i (oB (aV n) (iZ hX)))<|DV (56-((8*i:Nat):Int)) (56-8*i) ((pY (oB (aV n) (iZ hX))).trans (oB (aV n) (iZ hX)))<|cB (a:=fun r=>(vx (8*n))) (b:=fun r=>(vn (56-8*i))) (v:=fun r=>(qy205 n i)) .shr 52 (fun _ w=>pM (k:=.u64) (x:=8*n) (c:=56-8*i) (by have:=hn;have:=aV n;have:=hi;have:=iZ hX;show 8*n<18446744073709551616;omega) w)<|eU (DN n i) (congrArg (IM .u8) (u8M (8*n / 2^(56-8*i))))<|jY 1<|cX (pR _ 0 (fun r=>do pure (I5 (<- I9 #[35,35] 35 #[vs (nb r3 4) X.length (9+fG n),DI r 8 [ob ((8*n / 2^(56-8*i)%256:Nat):Int)] 1]))) (fun _=>nb r3 4) (fun _=>(cL C 5)) (fun _=>(FN C X.length [ob ((8*n / 2^(56-8*i)%256:Nat):Int)])) (fun _=>(fE (X++([ob ((8*n / 2^(56-8*i)%256:Nat):Int)]:LU)) (nb r3 4) (9+fG n))) (fun _=>kr) (fun _=>kr) (fun _=>kr) (fun _=>kr) tV (fun r _ _ hG hg=>qL underlying35 uT hg (Bs.src (tx:=35) underlying35 (Bs.o7 (hG.kn (g:=nb r 8) (o:=(cL #[DN n i] 5)) 65) (hd1 om) (IK 1) lb)) hs (by have:=hn;have:=aV n;have:=hi;have:=iZ hX;simp only [IU,IP];omega)))<|jX 1) (fun _=>aH (aA (lV f76 2 [0,2,4,18] [] [vn (i+1),vn (i+1)] [] (oD (bF i 1 (oB (aV n) (iZ hX)))<|jX 1) (?_)))))))))
  exact mN (i+1,X++([ob ((8*n / 2^(56-8*i)%256:Nat):Int)]:LU),lK C X.length (bs ([ob ((8*n / 2^(56-8*i)%256:Nat):Int)]:LU))) (by show 8-(i+1)<8-i;have:=aV n;have:=iZ hX;omega) (⟨(oB (aV n) (iZ hX)),pad_next hX,Hd.lK hC rfl,(qR _ _ _ (yM hs (by have:=hn;have:=aV n;have:=hi;have:=iZ hX;simp only [IU,IP];omega))).trans hs⟩) []
 rw [h1]
 refine bC (aF (aF (aO (aA (jJ f76 2 [2] (let qa:=vs (nb r3 4) X.length (9+fG n);[qa,qa]) (aG (mD [(2,(vs (nb r3 4) X.length (9+fG n)))] [(nb r3 4,(cL C 5))] ?_)))))))
 exact mR (v:=(vs (nb r3 4) X.length (9+fG n))) (fun _ hS=>⟨rF r3 4 0,9+fG n,congrArg IJ (by rw [(pad_end hX (by have:=yF h1;have:=aV n;have:=iZ hX;omega))]),hS.dM,rC (pad_end hX (by have:=yF h1;have:=aV n;have:=iZ hX;omega)) (hS.fresh (.head _) hC (oB (aV n) (iZ hX)) (oB (aV n) (iZ hX)))⟩)
abbrev wF:=fun p0=>(some ⟨p0,0,none⟩:Option Addr)
theorem shrow_any (g:Nat) (n:Nat) (pa:Nat->OA) (pc:Nat->Nat) (pB:Nat->LU) (hn:n<=16) (hl:(Ib pB n).length<=140737488351232) (h0:0<(pB 0).length) (w0:JS) (hf0:Kb w0 g (rowS n pa pc pB)) (hf1:AllB w0 n pa pc pB):Calls prog 49 #[vs g n n] w0 (fun ε w'=>∃ α κ,ε=.returned (gW (Ib pB n) α κ)/\jG w0 w'/\Fs w0 w' α κ (Ib pB n)):=by
 refine Calls.cW 17 (fun w=>Kb w g (rowS n pa pc pB)/\AllB w n pa pc pB/\True) func49 rfl rfl rfl (hf0.dW.and (hf1.dW.and iD)) (jJ f49 1 [0,2] [vz] (jJ f49 1 [0,2,3] [vz] (aC (jJ f49 3 [2,3,6,7,8] [vs g n n,vn n,vi 0] (aJ ?_)))))
 refine oL (σ:=Nat ⊕ (Nat × Nat × (LU) × (Array JR) × Nat)) (fun s=>match s with | JP i=>[(2,vz),(3,vz),(6,(vs g n n)),(7,(vn n)),(8,(vn i))] | JC ⟨i,q,X,_,κ⟩=>[(2,vz),(3,(vs q X.length κ)),(6,(vs g n n)),(7,(vn n)),(8,(vn i))]) (fun s=>match s with | JP _=>[] | JC ⟨_,q,_,C,_⟩=>[(q,(cL C 5))]) (fun s=>match s with | JP i=>n-i | JC ⟨i,_,_,_,_⟩=>n-i)
  (fun s=>match s with | JP i=>(i<=n)/\(i=0) | JC ⟨i,_,X,C,κ⟩=>(i<=n)/\(X=Ib pB i)/\(Hd C X)/\(C.size=κ)/\(X.length<=κ)) (JP 0) (⟨I4 _,rfl⟩) [] ?_
 rintro (i | ⟨i,q,X,C,κ⟩)
 ·rintro ⟨hi,h0i⟩
  refine jJ f49 1 [2,3,6,7,8,9] [.bool (decide ((i:Int)<(n:Int)))] (aC (oC (decide ((i:Int)<(n:Int))) (fun b1=>?_) (fun b1=>?_)))
  ·rw [b1]
   have:=yT b1
   refine aI (aA (aC (aJ (aY f49 3 [2,3,5,6,7,8] [] (let qa:JR:=.slice (pa i) (pB i).length (pc i);[jp g i,qa,qa]) [] (qSc (idx_rowS (g:=g) (c:=n) (k:=.i64) underlying114 sizeOf35 (show (i:Int)=(i:Int) from rfl) (show i<n from om))<|nM (v:=fun r=>(gW (pB i) (pa i) (pc i))) (fun hG=>EG (off:=i) isAgg35 hG.fn.1 (rowS_get om))<|jX 1) (rS f49 4 [2,3,6,7,8] [] (fun r=>let qa:=vs (nb r 2) (pB i).length ((pB i).length+bV r 2);[vz,gW (pB i) (pa i) (pc i),qa,qa]) (fun r=>(pO 2 r ((bs (pB i)).toArray++zB (bV r 2)) 5)) (jY 2<|cX (qN (fun _ ζ=>(fE (pB i) (ζ.headD 0) ((pB i).length+ζ.tail.headD 0))) (fun _ ζ=>(cL ((bs (pB i)).toArray++zB (ζ.tail.headD 0)) 5)) (fun _ _ _ hG=>Em (ty:=35) underlying35 uT (Bs.src (tx:=35) underlying35 (hG.fn.2.1 i om)) (by rw [h0i];exact h0) (by have h1:=(catB_next pB (show i<n by omega));omega)))<|jX 1) (fun r6=>aH (aA (lV f49 2 [2,3,6,7,8] [] [vn (i+1),vn (i+1)] [] (oD (bF i 1 om)<|jX 1) (?_)))))))))
   exact mN (JC (i+1,nb r6 2,pB i,(bs (pB i)).toArray++zB (bV r6 2),(pB i).length+bV r6 2)) (by show n-(i+1)<n-i;omega) (⟨om,(by rw [h0i];rfl),Hd.fresh _ _,Aj _ _,IY _ _⟩) []
  rw [b1]
  refine bC (aF (aF (aO (aA (jJ f49 2 [2] [vz,vz] (aG (mD [(2,vz)] [] ?_)))))))
  exact mR (v:=vz) (fun _ hS=>⟨none,0,congrArg IJ (by rw [<- (show ([]:LU)=Ib pB n by rw [show n=0 by have:=yF b1;omega];rfl)];rfl),hS.dM,rC (show ([]:LU)=Ib pB n by rw [show n=0 by have:=yF b1;omega];rfl) Fs.nil⟩)
 rintro ⟨hi,hX,hC,hs,hle⟩
 refine jJ f49 1 [2,3,6,7,8,9] [.bool (decide ((i:Int)<(n:Int)))] (aC (oC (decide ((i:Int)<(n:Int))) (fun b2=>?_) (fun b2=>?_)))
 ·rw [b2]
  have:=yT b2
  refine aI (aA (aC (aJ (aY f49 3 [2,3,5,6,7,8] [] (let qa:JR:=.slice (pa i) (pB i).length (pc i);[jp g i,qa,qa]) [] (qSc (idx_rowS (g:=g) (c:=n) (k:=.i64) underlying114 sizeOf35 (show (i:Int)=(i:Int) from rfl) (show i<n from om))<|nM (v:=fun r=>(gW (pB i) (pa i) (pc i))) (fun hG=>EG (off:=i) isAgg35 hG.fn.1 (rowS_get om))<|jX 1) (?_)))))
  rcases jO (decide (X.length+(pB i).length<=κ)) with b3 | b3
  ·refine lV f49 4 [2,3,6,7,8] [] (let qa:=vs q (X++(pB i)).length κ;[vs q X.length κ,gW (pB i) (pa i) (pc i),qa,qa]) [(2,(mQ 0 q (cL (lK C X.length (bs (pB i))) 5)))] (jY 2<|cX (pR _ 0 (fun _=>do pure (I5 (<- I9 #[35,35] 35 #[vs q X.length κ,gW (pB i) (pa i) (pc i)]))) (fun _=>q) (fun _=>(cL C 5)) (fun _=>(cL (lK C X.length (bs (pB i))) 5)) (fun _=>(fE (X++(pB i)) q κ)) (fun _=>kr) (fun _=>kr) (fun _=>kr) (fun _=>kr) tV (fun _ _ _ hG hg=>qL underlying35 uT hg (Bs.src (tx:=35) underlying35 (hG.fn.2.1 i (oA (yT b3)))) hs (yT b3)))<|jX 1) (aH (aA (lV f49 2 [2,3,6,7,8] [] [vn (i+1),vn (i+1)] [] (oD (bF i 1 (oA (yT b3)))<|jX 1) (?_))))
   exact mN (JC (i+1,q,X++(pB i),lK C X.length (bs (pB i)),κ)) (by show n-(i+1)<n-i;have:=yT b3;omega) (⟨(oA (yT b3)),(by rw [hX];rfl),Hd.lK hC rfl,(qR _ _ _ (yM hs (yT b3))).trans hs,vX (yT b3)⟩) []
  refine rS f49 4 [2,3,6,7,8] [0,1] (fun r=>let qa:=vs (nb r 2) (X++(pB i)).length ((X++(pB i)).length+bV r 2);[vs q X.length κ,gW (pB i) (pa i) (pc i),qa,qa]) (fun r=>(pO 2 r (grow C X.length (bs (pB i)) (bV r 2)) 5)) (jY 2<|cX (qN (fun _ ζ=>(fE (X++(pB i)) (ζ.headD 0) ((X++(pB i)).length+ζ.tail.headD 0))) (fun _ ζ=>(cL (grow C X.length (bs (pB i)) (ζ.tail.headD 0)) 5)) (fun _ _ _ hG=>zZ (ty:=35) underlying35 uT (hG.kn (g:=q) (o:=(cL C 5)) 0) (Bs.src (tx:=35) underlying35 (hG.fn.2.1 i (oA (yF b3)))) hs hle (Jt (yF b3)) (by have h1:=(catB_next pB (show i<n by have:=yF b3;omega));rw [<- hX] at h1;exact Jv h1 hl)))<|jX 1) (fun r13=>aH (aA (lV f49 2 [2,3,6,7,8] [] [vn (i+1),vn (i+1)] [] (oD (bF i 1 (oA (yF b3)))<|jX 1) (?_))))
  exact mN (JC (i+1,nb r13 2,X++(pB i),grow C X.length (bs (pB i)) (bV r13 2),(X++(pB i)).length+bV r13 2)) (by show n-(i+1)<n-i;have:=yF b3;omega) (⟨(oA (yF b3)),(by rw [hX];rfl),Hd.grow hC rfl,yB hC,IY _ _⟩) []
 rw [b2]
 have zh1:X=Ib pB n:=hX.trans (by rw [show i=n by have:=yF b2;omega])
 refine bC (aF (aF (aO (aA (jJ f49 2 [2] [vs q X.length κ,vs q X.length κ] (aG (mD [(2,(vs q X.length κ))] [(q,(cL C 5))] ?_)))))))
 exact mR (v:=(vs q X.length κ)) (fun _ hS=>⟨wF q,κ,congrArg IJ (by rw [<- zh1]),hS.dM,rC zh1 (hS.fresh (.head _) hC hle (by rw [hX];exact Jv (catB_le pB hi) hl))⟩)
abbrev aW:=fun p0 p1 p2=>(.slice p0 p1 p2:JR)
theorem shrow2_any (g:Nat) (a0:OA) (c0:Nat) (B0:LU) (a1:OA) (c1:Nat) (B1:LU) (hl:B0.length+B1.length<=140737488351232) (h0:0<B0.length) (w0:JS) (hf0:Kb w0 g #[aW a0 B0.length c0,aW a1 B1.length c1]) (hf1:Bs w0 a0 c0 B0) (hf2:Bs w0 a1 c1 B1):Calls prog 49 #[.slice (wF g) 2 2] w0 (fun ε w'=>∃ α κ,ε=.returned (gW (B0++B1) α κ)/\jG w0 w'/\Fs w0 w' α κ (B0++B1)):=shrow_any g 2 (fun k=>[a0,a1].getD k none) (fun k=>[c0,c1].getD k 0) (fun k=>[B0,B1].getD k []) dC (by show (([]++B0)++B1).length<=_;simp only [IL,IP];omega) h0 w0 hf0 (allB2 hf1 hf2)
theorem shrow3_any (g:Nat) (a0:OA) (c0:Nat) (B0:LU) (a1:OA) (c1:Nat) (B1:LU) (a2:OA) (c2:Nat) (B2:LU) (hl:B0.length+B1.length+B2.length<=140737488351232) (h0:0<B0.length) (w0:JS) (hf0:Kb w0 g #[aW a0 B0.length c0,aW a1 B1.length c1,aW a2 B2.length c2]) (hf1:Bs w0 a0 c0 B0) (hf2:Bs w0 a1 c1 B1) (hf3:Bs w0 a2 c2 B2):Calls prog 49 #[.slice (wF g) 3 3] w0 (fun ε w'=>∃ α κ,ε=.returned (gW ((B0++B1)++B2) α κ)/\jG w0 w'/\Fs w0 w' α κ ((B0++B1)++B2)):=shrow_any g 3 (fun k=>[a0,a1,a2].getD k none) (fun k=>[c0,c1,c2].getD k 0) (fun k=>[B0,B1,B2].getD k []) dC (by show ((([]++B0)++B1)++B2).length<=_;simp only [IL,IP];omega) h0 w0 hf0 (allB3 hf1 hf2 hf3)
abbrev cO:=fun p0=>(.int .u32 p0:JR)
abbrev Cb:=fun p0 p1=>vu (aP p0 p1)
theorem rotl_any (x:Nat) (n:Nat) (hx:x<4294967296) (hn:0<n/\n<32) (w0:JS):Calls prog 142 #[vu x,vi (0-(n:Int))] w0 (jR (vu (aP x n)) w0):=by
 refine Calls.cW 17 (fun _=>True) func142 rfl rfl rfl jT (jJ f142 1 [0,1,4] [cO 0] (aY f142 4 [0,4,5] [] [vi (0-(n:Int)),vx (18446744073709551616-n),vx (32-n),vx (32-n)] [] (jY 1<|eU (vx (18446744073709551616-n)) (congrArg (IM .u64) (u64_neg hn.1 hn.2))<|eU (vx (32-n)) (congrArg (IM .u64) (and31 hn.1 hn.2))<|jX 1) (aY f142 9 [4] [] [vu x,vx (32-n),vu (x*2^(32-n)%4294967296),vu x,vx (32-n),vx n,vu (x / 2^n),Cb x n,Cb x n] [] (jY 2<|cB (a:=fun r=>(vu x)) (b:=fun r=>(vx (32-n))) (v:=fun r=>(vu (x*2^(32-n)%4294967296))) .shl 45 (fun _ w=>run_shlM om w)<|jY 2<|eU (vx n) (congrArg (IM .u64) (u64_32 hn.1 hn.2))<|cB (a:=fun r=>(vu x)) (b:=fun r=>(vx n)) (v:=fun r=>(vu (x / 2^n))) .shr 45 (fun _ w=>pM (k:=.u32) hx w)<|eU (Cb x n) (jN (or_rot hx))<|jX 1) (aG ?_))))
 exact mR (v:=(Cb x n)) (fun _ hS=>⟨rfl,hS.dM⟩)
theorem vS (x:Nat) (n:Nat) (hx:x<4294967296) (hn:0<n/\n<32) (w0:JS):Calls prog 107 #[vu x,vn n] w0 (jR (vu (aP x n)) w0):=by
 refine Calls.cW 9 (fun _=>True) func107 rfl rfl rfl jT (jJ f107 1 [0,1,4] [cO 0] (aY f107 5 [4] [] [vu x,vn n,vi (0-(n:Int)),Cb x n,Cb x n] [] (jY 2<|FC (0-(n:Int)) om<|oO (rotl_any x n hx hn)<|jX 1) (aG ?_)))
 exact mR (v:=(Cb x n)) (fun _ hS=>⟨rfl,hS.dM⟩)
theorem zrow_sc (X:LU):gY .u32 64 (fun _=>0)=gY .u32 64 (sc X 0 0):=rE fun m _=>(sc_zero X m).symm
abbrev qy12:=fun p0 p1 p2 p3 p4 p5=>vu (bJ (bJ (bJ (wN p0 (p1-16)) ((p2^^^p3)^^^(p4 / 2^3))) (wN p0 (p1-7))) (((aP (wN p0 p5) 17)^^^(aP (wN p0 p5) 19))^^^((wN p0 (p1-2)) / 2^10)))
abbrev fC:=fun p0 p1=>vu (bJ p0 p1)
abbrev Fz:=fun p0 p1 p2=>vu ((aP p0 p1)^^^(aP p0 p2))
abbrev kH:=fun p0 p1=>vy (gB p0 p1)
abbrev qV:=fun p0 p1 p2=>vu (wN p0 (p1-p2))
abbrev qy96:=fun p0 p1=>vu (((aP (wN p0 (p1-15)) 7)^^^(aP (wN p0 (p1-15)) 18))^^^((wN p0 (p1-15)) / 2^3))
abbrev qy110:=fun p0 p1=>vu (((aP (wN p0 (p1-2)) 17)^^^(aP (wN p0 (p1-2)) 19))^^^((wN p0 (p1-2)) / 2^10))
abbrev zG:=fun p0 p1 p2 p3=>vu (aP (wN p0 (p1-p2)) p3)
abbrev pV:=fun p0 p1=>vi ((p0:Int)-p1)
abbrev o5:=fun p0 p1 p2 p3=>jp (nb p0 p1) (p2-p3)
abbrev sF:=fun p0 p1 p2 p3=>jp (nb p0 p1) (p2+p3)
abbrev qy163:=fun p0=>(.agg (gY .u32 64 p0):JR)
abbrev DF:=fun p0=>cL (bs p0).toArray 113
theorem sched_any (X:LU) (hX:X.length=64) (w0:JS):Calls prog 106 #[.agg (bs X).toArray] w0 (jR (qy163 (wN X)) w0):=by
 refine Calls.cW 85 (fun _=>True) func106 rfl rfl rfl jT (sS f106 2 [1,2] [] (fun r=>[bG r 0,bG r 1]) (fun r=>[(0,(nw r 0 (DF X))),(1,(nw r 1 (cL (gY .u32 64 (fun _=>0)) 145)))]) (jX 2) (fun r1=>sS f106 1 [1,2,3] [] (fun r=>[bG r 0]) (fun r=>[(0,(nw r 0 (cL (gY .u32 64 (fun _=>0)) 145)))]) (jX 1) (fun r2=>aC (jJ f106 1 [1,2,3,9] [vi 0] (aJ ?_)))))
 refine oL (σ:=Nat × (Array JR)) (fun ⟨i,_⟩=>[(1,(bG r1 0)),(2,(bG r1 1)),(3,(bG r2 0)),(9,(vn i))]) (fun ⟨_,C⟩=>[(nb r1 0,(DF X)),(nb r1 1,(cL (gY .u32 64 (fun _=>0)) 145)),(nb r2 0,(cL C 145))]) (fun ⟨i,_⟩=>16-i)
  (fun ⟨i,C⟩=>(i<=16)/\(C=gY .u32 64 (sc X i 0))) (0,gY .u32 64 (fun _=>0)) (⟨by decide,zrow_sc X⟩) [] ?_
 rintro ⟨i,C⟩ ⟨hi,hC⟩
 refine jJ f106 1 [1,2,3,9,10] [.bool (decide ((i:Int)<16))] (aC (oC (decide ((i:Int)<16)) (fun h1=>?_) (fun h1=>?_)))
 ·rw [h1]
  have:=yT h1
  refine aI (aA (aC (aJ (jJ f106 2 [1,2,3,4,9] [vn i,vn i] (jJ f106 1 [1,2,3,4,9,12] [vi 0] (aJ ?_))))))
  refine oL (σ:=Nat × (Array JR)) (fun ⟨j,_⟩=>[(1,(bG r1 0)),(2,(bG r1 1)),(3,(bG r2 0)),(4,(vn i)),(9,(vn i)),(12,(vn j))]) (fun ⟨_,C2⟩=>[(nb r1 0,(DF X)),(nb r1 1,(cL (gY .u32 64 (fun _=>0)) 145)),(nb r2 0,(cL C2 145))]) (fun ⟨j,_⟩=>4-j)
   (fun ⟨j,C2⟩=>(j<=4)/\(C2=gY .u32 64 (sc X i j))) (0,C) (⟨by decide,hC⟩) [] ?_
  rintro ⟨j,C2⟩ ⟨hj,hC2⟩
  refine jJ f106 1 [1,2,3,4,9,12,13] [.bool (decide ((j:Int)<4))] (aC (oC (decide ((j:Int)<4)) (fun h2=>?_) (fun h2=>?_)))
  ·rw [h2]
   have:=yT h2
   refine aI (aA (aC (aJ (jJ f106 2 [1,2,3,4,5,9,12] [vn j,vn j] (rDc f106 [0,0,2,6,14,0,32,0,224,480,992,2016,4094,8191,16383] 15 [1,2,3,4,9,12] [] [vn i,vn i,bH r2 0 i,vu (Il X i j),vu (Il X i j*256),vn i,vn (4*i),vn j,vn ((4*i)+j),sF r1 0 (4*i) j,kH X ((4*i)+j),vu (gB X ((4*i)+j)),vu (Il X i (j+1)),bH r2 0 i,JQ] [(14,(jD 2 r2 0 (C2.setIfInBounds i (vu (Il X i (j+1)))) 145))] (jY 2<|pI (II 145 (bG r2 0) (vn i)) (bH r2 0 i) (bK (n:=(i:Int)) (i:=i) underlying145 sizeOf45 om)<|uP 2 45 (nb r2 0) i C2 145 (vu (Il X i j)) isAgg45 (by rw [hC2,AL om,sc_at])<|cB (a:=fun r=>(vu (Il X i j))) (b:=fun r=>(rP 8)) (v:=fun r=>(vu (Il X i j*256))) .shl 45 (fun _ w=>run_pw8 om w)<|jY 1<|oD (nG 4 i om)<|jY 1<|oD (bF (4*i) j om)<|pI (II 113 (bG r1 0) (vn ((4*i)+j))) (sF r1 0 (4*i) j) (bK (n:=(((4*i)+j:Nat):Int)) (i:=(4*i)+j) underlying113 sizeOf5 om)<|uP 0 5 (nb r1 0) ((4*i)+j) ((bs X).toArray) 113 (kH X ((4*i)+j)) isAgg5 (H5 (by rw [hX];omega))<|cA (v:=fun r=>(cO (Jf.wrap (gB X ((4*i)+j):Int)))) (fun _=>(vu (gB X ((4*i)+j)))) (fun _=>jN (u32N (IR (gV _ _) dC)))<|cA (v:=fun r=>(cO (bits .or .u32 ((Il X i j*256:Nat):Int) (gB X ((4*i)+j):Int)))) (fun _=>(vu (Il X i (j+1)))) (fun _=>jN (or_pw om))<|pI (II 145 (bG r2 0) (vn i)) (bH r2 0 i) (bK (n:=(i:Int)) (i:=i) underlying145 sizeOf45 om)<|CW 2 45 (nb r2 0) i C2 (C2.setIfInBounds i (vu (Il X i (j+1)))) 145 (vu (Il X i (j+1))) sizeOf45 (by rw [hC2,nH];omega) rfl<|cN) (aH (aA (lV f106 2 [1,2,3,4,9,12] [] [vn (j+1),vn (j+1)] [] (oD (bF j 1 om)<|jX 1) (?_)))))))))
   exact mN (j+1,C2.setIfInBounds i (vu (Il X i (j+1)))) (by show 4-(j+1)<4-j;omega) (⟨om,by rw [hC2];exact sc_set⟩) []
  rw [h2]
  have:=yF h2
  refine bC (aF (aF (aO (aH (aA (lV f106 2 [1,2,3,9] [] [vn (i+1),vn (i+1)] [] (oD (bF i 1 om)<|jX 1) (?_)))))))
  exact mN (i+1,C2) (by show 16-(i+1)<16-i;omega) (⟨om,hC2.trans (by rw [show j=4 by omega];exact sc_next X i)⟩) []
 rw [h1]
 have:=yF h1
 refine bC (aF (aF (aO (aA (aC (jM f106 1 [2,3,6] [0,1,1] [vi 16] [[]] (aJ ?_)))))))
 refine oL (σ:=Nat × (Array JR)) (fun ⟨k,_⟩=>[(2,(bG r1 1)),(3,(bG r2 0)),(6,(vn k))]) (fun ⟨_,C3⟩=>[(nb r1 1,(cL (gY .u32 64 (fun _=>0)) 145)),(nb r2 0,(cL C3 145))]) (fun ⟨k,_⟩=>64-k)
  (fun ⟨k,C3⟩=>(16<=k/\k<=64)/\(C3=gY .u32 64 (tc X k))) (16,C) (⟨by decide,hC.trans (by rw [show i=16 by omega];exact sc_tc X)⟩) [] ?_
 rintro ⟨k,C3⟩ ⟨hk,hC3⟩
 refine aC (jJ f106 2 [2,3,6,32] [vn k,.bool (decide ((k:Int)<64))] (oC (decide ((k:Int)<64)) (fun h3=>?_) (fun h3=>?_)))
 ·rw [h3]
  have:=yT h3
  refine aI (aA (aC (aJ (Au f106 [0,1,3,7,15,0,32,96,224,511,1023,0,2048,6144,14336,30720,65535,131071] 18 [2,3,6,7] [] (let qa:=vu (((aP (wN X (k-15)) 7)^^^(aP (wN X (k-15)) 18))^^^((wN X (k-15)) / 2^3));let qb:=vi ((k:Int)-15);[vn k,qb,o5 r2 0 k 15,qV X k 15,zG X k 15 7,vn k,qb,o5 r2 0 k 15,qV X k 15,zG X k 15 18,Fz (wN X (k-15)) 7 18,vn k,qb,o5 r2 0 k 15,qV X k 15,vu ((wN X (k-15)) / 2^3),qa,qa]) [] (jY 1<|FC ((k:Int)-15) om<|pI (II 145 (bG r2 0) (pV k 15)) (o5 r2 0 k 15) (bK (n:=(k:Int)-15) (i:=k-15) underlying145 sizeOf45 om)<|uP 1 45 (nb r2 0) (k-15) C3 145 (qV X k 15) isAgg45 (by rw [hC3];exact vN om om)<|cC (f:=107) (args:=fun r=> #[qV X k 15,vi 7]) (v:=fun r=>(zG X k 15 7)) (fun _ w=>(fun w=>vS (wN X (k-15)) 7 (o6 _ _) dC w) w)<|jY 1<|FC ((k:Int)-15) om<|pI (II 145 (bG r2 0) (pV k 15)) (o5 r2 0 k 15) (bK (n:=(k:Int)-15) (i:=k-15) underlying145 sizeOf45 om)<|uP 1 45 (nb r2 0) (k-15) C3 145 (qV X k 15) isAgg45 (by rw [hC3];exact vN om om)<|cC (f:=107) (args:=fun r=> #[qV X k 15,vi 18]) (v:=fun r=>(zG X k 15 18)) (fun _ w=>(fun w=>vS (wN X (k-15)) 18 (o6 _ _) dC w) w)<|cA (v:=fun r=>(cO (bits .xor .u32 (aP (wN X (k-15)) 7:Int) (aP (wN X (k-15)) 18:Int)))) (fun _=>(Fz (wN X (k-15)) 7 18)) (fun _=>jN (vC (fF _ (o6 _ _)) (fF _ (o6 _ _))))<|jY 1<|FC ((k:Int)-15) om<|pI (II 145 (bG r2 0) (pV k 15)) (o5 r2 0 k 15) (bK (n:=(k:Int)-15) (i:=k-15) underlying145 sizeOf45 om)<|uP 1 45 (nb r2 0) (k-15) C3 145 (qV X k 15) isAgg45 (by rw [hC3];exact vN om om)<|cB (a:=fun r=>(qV X k 15)) (b:=fun r=>(rP 3)) (v:=fun r=>(vu ((wN X (k-15)) / 2^3))) .shr 45 (fun _ w=>pM (k:=.u32) (x:=(wN X (k-15))) (c:=3) (o6 _ _) w)<|cA (v:=fun r=>(cO (bits .xor .u32 (((aP (wN X (k-15)) 7)^^^(aP (wN X (k-15)) 18):Nat):Int) (((wN X (k-15)) / 2^3:Nat):Int)))) (fun _=>(qy96 X k)) (fun _=>jN (vC (vP (fF _ (o6 _ _)) (fF _ (o6 _ _))) (BQ _ (o6 _ _))))<|jX 1) (Au f106 [0,1,3,7,15,0,32,96,224,511,1023,0,2048,6144,14336,30720,65535,131071] 18 [2,3,6,7,8] [] (let qa:=vu (((aP (wN X (k-2)) 17)^^^(aP (wN X (k-2)) 19))^^^((wN X (k-2)) / 2^10));let qb:=vi ((k:Int)-2);[vn k,qb,o5 r2 0 k 2,qV X k 2,zG X k 2 17,vn k,qb,o5 r2 0 k 2,qV X k 2,zG X k 2 19,Fz (wN X (k-2)) 17 19,vn k,qb,o5 r2 0 k 2,qV X k 2,vu ((wN X (k-2)) / 2^10),qa,qa]) [] (jY 1<|FC ((k:Int)-2) om<|pI (II 145 (bG r2 0) (pV k 2)) (o5 r2 0 k 2) (bK (n:=(k:Int)-2) (i:=k-2) underlying145 sizeOf45 om)<|uP 1 45 (nb r2 0) (k-2) C3 145 (qV X k 2) isAgg45 (by rw [hC3];exact vN om om)<|cC (f:=107) (args:=fun r=> #[qV X k 2,vi 17]) (v:=fun r=>(zG X k 2 17)) (fun _ w=>(fun w=>vS (wN X (k-2)) 17 (o6 _ _) dC w) w)<|jY 1<|FC ((k:Int)-2) om<|pI (II 145 (bG r2 0) (pV k 2)) (o5 r2 0 k 2) (bK (n:=(k:Int)-2) (i:=k-2) underlying145 sizeOf45 om)<|uP 1 45 (nb r2 0) (k-2) C3 145 (qV X k 2) isAgg45 (by rw [hC3];exact vN om om)<|cC (f:=107) (args:=fun r=> #[qV X k 2,vi 19]) (v:=fun r=>(zG X k 2 19)) (fun _ w=>(fun w=>vS (wN X (k-2)) 19 (o6 _ _) dC w) w)<|cA (v:=fun r=>(cO (bits .xor .u32 (aP (wN X (k-2)) 17:Int) (aP (wN X (k-2)) 19:Int)))) (fun _=>(Fz (wN X (k-2)) 17 19)) (fun _=>jN (vC (fF _ (o6 _ _)) (fF _ (o6 _ _))))<|jY 1<|FC ((k:Int)-2) om<|pI (II 145 (bG r2 0) (pV k 2)) (o5 r2 0 k 2) (bK (n:=(k:Int)-2) (i:=k-2) underlying145 sizeOf45 om)<|uP 1 45 (nb r2 0) (k-2) C3 145 (qV X k 2) isAgg45 (by rw [hC3];exact vN om om)<|cB (a:=fun r=>(qV X k 2)) (b:=fun r=>(rP 10)) (v:=fun r=>(vu ((wN X (k-2)) / 2^10))) .shr 45 (fun _ w=>pM (k:=.u32) (x:=(wN X (k-2))) (c:=10) (o6 _ _) w)<|cA (v:=fun r=>(cO (bits .xor .u32 (((aP (wN X (k-2)) 17)^^^(aP (wN X (k-2)) 19):Nat):Int) (((wN X (k-2)) / 2^10:Nat):Int)))) (fun _=>(qy110 X k)) (fun _=>jN (vC (vP (fF _ (o6 _ _)) (fF _ (o6 _ _))) (BQ _ (o6 _ _))))<|jX 1) (rDc f106 [0,0,2,6,14,0,62,0,128,384,896,2046,0,8190,16383,32767] 16 [2,3,6] [] (let qa:=bJ (wN X (k-16)) (((aP (wN X (k-15)) 7)^^^(aP (wN X (k-15)) 18))^^^((wN X (k-15)) / 2^3));[vn k,vn k,pV k 16,o5 r2 0 k 16,qV X k 16,qy96 X k,vu qa,vn k,pV k 7,o5 r2 0 k 7,qV X k 7,fC qa (wN X (k-7)),qy110 X k,fC (bJ qa (wN X (k-7))) (((aP (wN X (k-2)) 17)^^^(aP (wN X (k-2)) 19))^^^((wN X (k-2)) / 2^10)),bH r2 0 k,JQ]) [(15,(jD 1 r2 0 (C3.setIfInBounds k (qy12 X k (aP (wN X (k-15)) 7) (aP (wN X (k-15)) 18) (wN X (k-15)) (k-2))) 145))] (jY 2<|FC ((k:Int)-16) om<|pI (II 145 (bG r2 0) (pV k 16)) (o5 r2 0 k 16) (bK (n:=(k:Int)-16) (i:=k-16) underlying145 sizeOf45 om)<|uP 1 45 (nb r2 0) (k-16) C3 145 (qV X k 16) isAgg45 (by rw [hC3];exact vN om om)<|jY 1<|eU (fC (wN X (k-16)) (((aP (wN X (k-15)) 7)^^^(aP (wN X (k-15)) 18))^^^((wN X (k-15)) / 2^3))) (jN (dG (wN X (k-16)) (((aP (wN X (k-15)) 7)^^^(aP (wN X (k-15)) 18))^^^((wN X (k-15)) / 2^3))))<|jY 1<|FC ((k:Int)-7) om<|pI (II 145 (bG r2 0) (pV k 7)) (o5 r2 0 k 7) (bK (n:=(k:Int)-7) (i:=k-7) underlying145 sizeOf45 om)<|uP 1 45 (nb r2 0) (k-7) C3 145 (qV X k 7) isAgg45 (by rw [hC3];exact vN om om)<|eU (fC (bJ (wN X (k-16)) (((aP (wN X (k-15)) 7)^^^(aP (wN X (k-15)) 18))^^^((wN X (k-15)) / 2^3))) (wN X (k-7))) (jN (dG (bJ (wN X (k-16)) (((aP (wN X (k-15)) 7)^^^(aP (wN X (k-15)) 18))^^^((wN X (k-15)) / 2^3))) (wN X (k-7))))<|jY 1<|eU (qy12 X k (aP (wN X (k-15)) 7) (aP (wN X (k-15)) 18) (wN X (k-15)) (k-2)) (jN (dG (bJ (bJ (wN X (k-16)) (((aP (wN X (k-15)) 7)^^^(aP (wN X (k-15)) 18))^^^((wN X (k-15)) / 2^3))) (wN X (k-7))) (((aP (wN X (k-2)) 17)^^^(aP (wN X (k-2)) 19))^^^((wN X (k-2)) / 2^10))))<|pI (II 145 (bG r2 0) (vn k)) (bH r2 0 k) (bK (n:=(k:Int)) (i:=k) underlying145 sizeOf45 om)<|CW 1 45 (nb r2 0) k C3 (C3.setIfInBounds k (qy12 X k (aP (wN X (k-15)) 7) (aP (wN X (k-15)) 18) (wN X (k-15)) (k-2))) 145 (qy12 X k (aP (wN X (k-15)) 7) (aP (wN X (k-15)) 18) (wN X (k-15)) (k-2)) sizeOf45 (by rw [hC3,nH];omega) rfl<|cN) (aH (aA (lV f106 3 [2,3,6] [] [vn k,vn (k+1),vn (k+1)] [] (jY 1<|oD (bF k 1 om)<|jX 1) (?_))))))))))
  exact mN (k+1,C3.setIfInBounds k (qy12 X k (aP (wN X (k-15)) 7) (aP (wN X (k-15)) 18) (wN X (k-15)) (k-2))) (by show 64-(k+1)<64-k;omega) (⟨om,by rw [hC3];exact tc_set (wN_more hk.1).symm⟩) []
 rw [h3]
 refine bC (aF (aF (aO ?_)))
 rw [hC3]
 refine aA (aY f106 2 [2] [1,0] [qy163 (tc X k),JQ] [(1,(jD 0 r1 1 (gY .u32 64 (tc X k)) 145))] (jE [[1],[0]]) (aG ?_))
 exact mR (v:=(qy163 (tc X k))) (fun _ hS=>⟨congrArg IJ (congrArg JL (tc_end (oA (yF h3)))),hS.dM⟩)
abbrev nS:=[[],[0],[]]
abbrev qy90:=fun p0 p1 p2 p3=>vu (((aP p0 p1)^^^(aP p0 p2))^^^(aP p0 p3))
abbrev qy122:=(cL #[cO 0,cO 0,cO 0,cO 0,cO 0,cO 0,cO 0,cO 0] 111:Obj)
abbrev H7:=fun p0=>(.agg (bs p0).toArray:JR)
abbrev Dy:=fun p0 p1=>vu (aP p0 p1)
abbrev qy203:=fun p0 p1 p2=>vu (((p0&&&p1)^^^(p0&&&p2))^^^(p1&&&p2))
theorem compress_any (s0:Nat) (s1:Nat) (s2:Nat) (s3:Nat) (s4:Nat) (s5:Nat) (s6:Nat) (s7:Nat) (X:LU) (hs:ok8 (s0,s1,s2,s3,s4,s5,s6,s7)) (hX:X.length=64) (w0:JS) (hf0:FM w0):Calls prog 77 #[.agg #[vu s0,vu s1,vu s2,vu s3,vu s4,vu s5,vu s6,vu s7],.agg (bs X).toArray] w0 (jR (.agg #[vu ((oQ (s0,s1,s2,s3,s4,s5,s6,s7) X).1),vu ((oQ (s0,s1,s2,s3,s4,s5,s6,s7) X).2.1),vu ((oQ (s0,s1,s2,s3,s4,s5,s6,s7) X).2.2.1),vu ((oQ (s0,s1,s2,s3,s4,s5,s6,s7) X).2.2.2.1),vu ((oQ (s0,s1,s2,s3,s4,s5,s6,s7) X).2.2.2.2.1),vu ((oQ (s0,s1,s2,s3,s4,s5,s6,s7) X).2.2.2.2.2.1),vu ((oQ (s0,s1,s2,s3,s4,s5,s6,s7) X).2.2.2.2.2.2.1),vu ((oQ (s0,s1,s2,s3,s4,s5,s6,s7) X).2.2.2.2.2.2.2)]) w0):=by
 refine Calls.cW 131 (fun w=>FM w/\True) func77 rfl rfl rfl (hf0.dW.and iD) (sS f77 3 [2,3,4] [] (fun r=>[bG r 0,bG r 1,bG r 2]) (fun r=>[(0,(nw r 0 (cL #[vu s0,vu s1,vu s2,vu s3,vu s4,vu s5,vu s6,vu s7] 111))),(1,(nw r 1 (DF X))),(2,(nw r 2 qy122))]) (jX 3) (fun r1=>sS f77 4 [2,4,5] [1,0,1,1] (fun r=>[H7 X,qy163 (wN X),bG r 2,JQ]) (fun r=>[(2,(nw r 2 (cL (gY .u32 64 (fun _=>0)) 145))),(3,(jD 19 r 2 (gY .u32 64 (wN X)) 145))]) (nM (fun hG=>Eo isAgg113 sizeOf113 (hG.kn (g:=nb r1 1) (o:=(DF X)) 1) (by simp [bs,hX]))<|oO (sched_any X hX)<|jE [[],[19]]) (fun r2=>Au f77 [0,1,0,4,0,16,0,64,3,271,831,2047] 12 [2,4,5,6,7,8,9] [] [bG r1 0,vu s0,bH r1 0 1,vu s1,bH r1 0 2,vu s2,bH r1 0 3,vu s3,vu s0,vu s1,vu s2,vu s3] [] (jE [[],[0],[],[0],[],[0],[],[0],[],[],[],[]]) (Au f77 [0,1,0,4,0,16,0,64,3,271,831,2047] 12 [2,4,5,6,7,8,9,10,11,12,13] [] [bH r1 0 4,vu s4,bH r1 0 5,vu s5,bH r1 0 6,vu s6,bH r1 0 7,vu s7,vu s4,vu s5,vu s6,vu s7] [] (jE [[],[0],[],[0],[],[0],[],[0],[],[],[],[]]) (aC (jJ f77 1 [2,4,5,6,7,8,9,10,11,12,13,35] [vi 0] (aJ ?_)))))))
 refine oL (σ:=Nat × Nat × Nat × Nat × Nat × Nat × Nat × Nat × Nat) (fun ⟨i,ra,rb,rc,rd,re,rf,rg,rh⟩=>[(2,(bG r1 0)),(4,(bG r1 2)),(5,(bG r2 2)),(6,(vu ra)),(7,(vu rb)),(8,(vu rc)),(9,(vu rd)),(10,(vu re)),(11,(vu rf)),(12,(vu rg)),(13,(vu rh)),(35,(vn i))]) (fun ⟨_,_,_,_,_,_,_,_,_⟩=>[(nb r1 0,(cL #[vu s0,vu s1,vu s2,vu s3,vu s4,vu s5,vu s6,vu s7] 111)),(nb r1 2,qy122),(nb r2 2,(cL (gY .u32 64 (wN X)) 145))]) (fun ⟨i,_,_,_,_,_,_,_,_⟩=>64-i)
  (fun ⟨i,ra,rb,rc,rd,re,rf,rg,rh⟩=>(i<=64)/\(rnds X (s0,s1,s2,s3,s4,s5,s6,s7) i=(ra,rb,rc,rd,re,rf,rg,rh))) (0,s0,s1,s2,s3,s4,s5,s6,s7) (⟨by decide,rfl⟩) [] ?_
 rintro ⟨i,ra,rb,rc,rd,re,rf,rg,rh⟩ ⟨hi,hr⟩
 have ho:ok8 (ra,rb,rc,rd,re,rf,rg,rh):=hr ▸ rnds_ok hs i
 refine jJ f77 1 [2,4,5,6,7,8,9,10,11,12,13,35,36] [.bool (decide ((i:Int)<64))] (aC (oC (decide ((i:Int)<64)) (fun b1=>?_) (fun b1=>?_)))
 ·rw [b1]
  have:=yT b1
  refine aI (aA (aC (aJ (jJ f77 2 [2,4,5,6,7,8,9,10,11,12,13,14,35] [vn i,vn i] (Au f77 [0,0,2,0,14,30,0,94,254,511,0,0,3072,0,8192,0,57344,130048,262143,0,524288,1572864,4194303,0,8388608,25165824,67108863,134217727] 28 [2,4,5,6,7,8,9,10,11,12,13,15,35] [] (let qa:=bJ (bJ rh (((aP re 6)^^^(aP re 11))^^^(aP re 25))) ((re&&&rf)^^^((kW re)&&&rg));let qb:=vu (bJ (bJ qa (kN i)) (wN X i));[vu rh,vu re,Dy re 6,vu re,Dy re 11,Fz re 6 11,vu re,Dy re 25,qy90 re 6 11 25,fC rh (((aP re 6)^^^(aP re 11))^^^(aP re 25)),vu re,vu rf,vu (re&&&rf),vu re,vu (kW re),vu rg,vu ((kW re)&&&rg),vu ((re&&&rf)^^^((kW re)&&&rg)),vu qa,vn i,jp 1 i,vu (kN i),fC qa (kN i),vn i,bH r2 2 i,vu (wN X i),qb,qb]) [] (jY 2<|oO (vS re 6 ho.2.2.2.2.1 dC)<|jY 1<|oO (vS re 11 ho.2.2.2.2.1 dC)<|cA (v:=fun r=>(cO (bits .xor .u32 (aP re 6:Int) (aP re 11:Int)))) (fun _=>(Fz re 6 11)) (fun _=>jN (vC (fF _ ho.2.2.2.2.1) (fF _ ho.2.2.2.2.1)))<|jY 1<|oO (vS re 25 ho.2.2.2.2.1 dC)<|cA (v:=fun r=>(cO (bits .xor .u32 (((aP re 6)^^^(aP re 11):Nat):Int) (aP re 25:Int)))) (fun _=>(qy90 re 6 11 25)) (fun _=>jN (vC (vP (fF _ ho.2.2.2.2.1) (fF _ ho.2.2.2.2.1)) (fF _ ho.2.2.2.2.1)))<|eU (fC rh (((aP re 6)^^^(aP re 11))^^^(aP re 25))) (jN (dG rh (((aP re 6)^^^(aP re 11))^^^(aP re 25))))<|jY 2<|eU (vu (re&&&rf)) (jN (FD ho.2.2.2.2.1 ho.2.2.2.2.2.1))<|jY 1<|eU (vu (kW re)) (jN (not_xor32 ho.2.2.2.2.1))<|jY 1<|cA (v:=fun r=>(cO (bits .and .u32 ((kW re:Nat):Int) (rg:Int)))) (fun _=>(vu ((kW re)&&&rg))) (fun _=>jN (FD (IC _) ho.2.2.2.2.2.2.1))<|cA (v:=fun r=>(cO (bits .xor .u32 ((re&&&rf:Nat):Int) (((kW re)&&&rg:Nat):Int)))) (fun _=>(vu ((re&&&rf)^^^((kW re)&&&rg)))) (fun _=>jN (vC (qU _ ho.2.2.2.2.1) (qU _ (IC _))))<|eU (fC (bJ rh (((aP re 6)^^^(aP re 11))^^^(aP re 25))) ((re&&&rf)^^^((kW re)&&&rg))) (jN (dG (bJ rh (((aP re 6)^^^(aP re 11))^^^(aP re 25))) ((re&&&rf)^^^((kW re)&&&rg))))<|jY 1<|pI (II 145 (pt 1) (vn i)) (jp 1 i) (bK (n:=(i:Int)) (i:=i) underlying145 sizeOf45 om)<|nM (v:=fun r=>(vu (kN i))) (fun hG=>EG (off:=i) isAgg45 hG.fn.1 (kC_get om))<|eU (fC (bJ (bJ rh (((aP re 6)^^^(aP re 11))^^^(aP re 25))) ((re&&&rf)^^^((kW re)&&&rg))) (kN i)) (jN (dG (bJ (bJ rh (((aP re 6)^^^(aP re 11))^^^(aP re 25))) ((re&&&rf)^^^((kW re)&&&rg))) (kN i)))<|jY 1<|pI (II 145 (bG r2 2) (vn i)) (bH r2 2 i) (bK (n:=(i:Int)) (i:=i) underlying145 sizeOf45 om)<|uP 2 45 (nb r2 2) i (gY .u32 64 (wN X)) 145 (vu (wN X i)) isAgg45 (AL om)<|eU (fC (bJ (bJ (bJ rh (((aP re 6)^^^(aP re 11))^^^(aP re 25))) ((re&&&rf)^^^((kW re)&&&rg))) (kN i)) (wN X i)) (jN (dG (bJ (bJ (bJ rh (((aP re 6)^^^(aP re 11))^^^(aP re 25))) ((re&&&rf)^^^((kW re)&&&rg))) (kN i)) (wN X i)))<|jX 1) (aY f77 21 [2,4,5,6,7,8,9,10,11,12,13,15,16,35] [] (let qa:=vu (bJ (((aP ra 2)^^^(aP ra 13))^^^(aP ra 22)) (((ra&&&rb)^^^(ra&&&rc))^^^(rb&&&rc)));[vu ra,Dy ra 2,vu ra,Dy ra 13,Fz ra 2 13,vu ra,Dy ra 22,qy90 ra 2 13 22,vu ra,vu rb,vu (ra&&&rb),vu ra,vu rc,vu (ra&&&rc),vu ((ra&&&rb)^^^(ra&&&rc)),vu rb,vu rc,vu (rb&&&rc),qy203 ra rb rc,qa,qa]) [] (jY 1<|oO (vS ra 2 ho.1 dC)<|jY 1<|oO (vS ra 13 ho.1 dC)<|cA (v:=fun r=>(cO (bits .xor .u32 (aP ra 2:Int) (aP ra 13:Int)))) (fun _=>(Fz ra 2 13)) (fun _=>jN (vC (fF _ ho.1) (fF _ ho.1)))<|jY 1<|oO (vS ra 22 ho.1 dC)<|cA (v:=fun r=>(cO (bits .xor .u32 (((aP ra 2)^^^(aP ra 13):Nat):Int) (aP ra 22:Int)))) (fun _=>(qy90 ra 2 13 22)) (fun _=>jN (vC (vP (fF _ ho.1) (fF _ ho.1)) (fF _ ho.1)))<|jY 2<|eU (vu (ra&&&rb)) (jN (FD ho.1 ho.2.1))<|jY 2<|eU (vu (ra&&&rc)) (jN (FD ho.1 ho.2.2.1))<|cA (v:=fun r=>(cO (bits .xor .u32 ((ra&&&rb:Nat):Int) ((ra&&&rc:Nat):Int)))) (fun _=>(vu ((ra&&&rb)^^^(ra&&&rc)))) (fun _=>jN (vC (qU _ ho.1) (qU _ ho.1)))<|jY 2<|eU (vu (rb&&&rc)) (jN (FD ho.2.1 ho.2.2.1))<|cA (v:=fun r=>(cO (bits .xor .u32 (((ra&&&rb)^^^(ra&&&rc):Nat):Int) ((rb&&&rc:Nat):Int)))) (fun _=>(qy203 ra rb rc)) (fun _=>jN (vC (vP (qU _ ho.1) (qU _ ho.1)) (qU _ ho.2.1)))<|eU (fC (((aP ra 2)^^^(aP ra 13))^^^(aP ra 22)) (((ra&&&rb)^^^(ra&&&rc))^^^(rb&&&rc))) (jN (dG (((aP ra 2)^^^(aP ra 13))^^^(aP ra 22)) (((ra&&&rb)^^^(ra&&&rc))^^^(rb&&&rc))))<|jX 1) (lV f77 20 [2,4,5,6,7,8,9,10,11,12,13,35] [] (let qa:=bJ (bJ (bJ (bJ rh (((aP re 6)^^^(aP re 11))^^^(aP re 25))) ((re&&&rf)^^^((kW re)&&&rg))) (kN i)) (wN X i);let qb:=bJ (((aP ra 2)^^^(aP ra 13))^^^(aP ra 22)) (((ra&&&rb)^^^(ra&&&rc))^^^(rb&&&rc));[vu qa,vu qb,fC qa qb,vu ra,vu rb,vu rc,vu rd,vu qa,fC rd qa,vu re,vu rf,vu rg,fC qa qb,vu ra,vu rb,vu rc,fC rd qa,vu re,vu rf,vu rg]) [] (jY 2<|eU (fC (bJ (bJ (bJ (bJ rh (((aP re 6)^^^(aP re 11))^^^(aP re 25))) ((re&&&rf)^^^((kW re)&&&rg))) (kN i)) (wN X i)) (bJ (((aP ra 2)^^^(aP ra 13))^^^(aP ra 22)) (((ra&&&rb)^^^(ra&&&rc))^^^(rb&&&rc)))) (jN (dG (bJ (bJ (bJ (bJ rh (((aP re 6)^^^(aP re 11))^^^(aP re 25))) ((re&&&rf)^^^((kW re)&&&rg))) (kN i)) (wN X i)) (bJ (((aP ra 2)^^^(aP ra 13))^^^(aP ra 22)) (((ra&&&rb)^^^(ra&&&rc))^^^(rb&&&rc)))))<|jY 5<|eU (fC rd (bJ (bJ (bJ (bJ rh (((aP re 6)^^^(aP re 11))^^^(aP re 25))) ((re&&&rf)^^^((kW re)&&&rg))) (kN i)) (wN X i))) (jN (dG rd (bJ (bJ (bJ (bJ rh (((aP re 6)^^^(aP re 11))^^^(aP re 25))) ((re&&&rf)^^^((kW re)&&&rg))) (kN i)) (wN X i))))<|jX 11) (aH (aA (lV f77 2 [2,4,5,6,7,8,9,10,11,12,13,35] [] [vn (i+1),vn (i+1)] [] (oD (bF i 1 om)<|jX 1) (?_)))))))))))
  exact mN (i+1,bJ (bJ (bJ (bJ (bJ rh (((aP re 6)^^^(aP re 11))^^^(aP re 25))) ((re&&&rf)^^^((kW re)&&&rg))) (kN i)) (wN X i)) (bJ (((aP ra 2)^^^(aP ra 13))^^^(aP ra 22)) (((ra&&&rb)^^^(ra&&&rc))^^^(rb&&&rc))),ra,rb,rc,bJ rd (bJ (bJ (bJ (bJ rh (((aP re 6)^^^(aP re 11))^^^(aP re 25))) ((re&&&rf)^^^((kW re)&&&rg))) (kN i)) (wN X i)),re,rf,rg) (by show 64-(i+1)<64-i;omega) (⟨om,rnds_next hr⟩) []
 rw [b1]
 refine bC (aF (aF (aO (aA (aY f77 34 [4] [0,1,0] [bG r1 0,vu s0,vu ra,fC s0 ra,bH r1 0 1,vu s1,vu rb,fC s1 rb,bH r1 0 2,vu s2,vu rc,fC s2 rc,bH r1 0 3,vu s3,vu rd,fC s3 rd,bH r1 0 4,vu s4,vu re,fC s4 re,bH r1 0 5,vu s5,vu rf,fC s5 rf,bH r1 0 6,vu s6,vu rg,fC s6 rg,bH r1 0 7,vu s7,vu rh,fC s7 rh,.agg #[fC s0 ra,fC s1 rb,fC s2 rc,fC s3 rd,fC s4 re,fC s5 rf,fC s6 rg,fC s7 rh],JQ] [(33,(mQ 1 (nb r1 2) (cL #[fC s0 ra,fC s1 rb,fC s2 rc,fC s3 rd,fC s4 re,fC s5 rf,fC s6 rg,fC s7 rh] 111)))] (cR nS<|eU (fC s0 ra) (jN (dG s0 ra))<|cR nS<|eU (fC s1 rb) (jN (dG s1 rb))<|cR nS<|eU (fC s2 rc) (jN (dG s2 rc))<|cR nS<|eU (fC s3 rd) (jN (dG s3 rd))<|cR nS<|eU (fC s4 re) (jN (dG s4 re))<|cR nS<|eU (fC s5 rf) (jN (dG s5 rf))<|cR nS<|eU (fC s6 rg) (jN (dG s6 rg))<|cR nS<|eU (fC s7 rh) (jN (dG s7 rh))<|jE [[],[1]]) (aG ?_))))))
 exact mR (v:=(.agg #[fC s0 ra,fC s1 rb,fC s2 rc,fC s3 rd,fC s4 re,fC s5 rf,fC s6 rg,fC s7 rh])) (fun _ hS=>⟨congrArg IJ (by rw [cmp_end hr (show i=64 by have:=yF b1;omega)]),hS.dM⟩)
abbrev qy34:=(.agg #[cO 1779033703,cO 3144134277,cO 1013904242,cO 2773480762,cO 1359893119,cO 2600822924,cO 528734635,cO 1541459225]:JR)
abbrev lY:=fun p0 p1 p2=>vs (nb p0 p1) p2 p2
abbrev oG:=fun p0=>(.agg (hB p0):JR)
abbrev Ik {α:Type} (p0:List α):=vn p0.length
abbrev pX:=fun p0=>(.pointer p0:JR)
abbrev sJ:=fun p0=>some (vn p0)
abbrev qy146:=(cL #[cO 1779033703,cO 3144134277,cO 1013904242,cO 2773480762,cO 1359893119,cO 2600822924,cO 528734635,cO 1541459225] 111:Obj)
abbrev bW:=fun p0=>(.agg p0:JR)
abbrev Aq:=fun p0 p1 p2 p3 p4=>vy (tX p0 p1 / p2^p3%p4)
theorem sum_any (a:OA) (c:Nat) (B:LU) (h0:0<B.length) (hl:B.length+73<=140737488351232) (w0:JS) (hf0:Bs w0 a c B) (hf1:FM w0) (hf2:F9 w0):Calls prog 48 #[aW a B.length c] w0 (jR (oG (iO B)) w0):=by
 refine Calls.cW 48 (fun w=>Bs w a c B/\FM w/\F9 w/\True) func48 rfl rfl rfl (hf0.dW.and (hf1.dW.and (hf2.dW.and iD))) (sS f48 1 [0,2] [] (fun r=>[bG r 0]) (fun r=>(pO 0 r (hB 0) 47)) (jX 1) (fun r1=>wW f48 8 [2,3] [1,0] (fun r=>let qa:JR:=.slice (oa r 6) (B++(dE B.length)).length (nb r 6);[aW a B.length c,aW a B.length c,vn B.length,vx B.length,gW (dE B.length) (oa r 4) (nb r 4),lY r 5 2,qa,qa]) (fun r=>[(5,(nw r 5 (cL #[aW a B.length c,gW (dE B.length) (oa r 4) (nb r 4)] 35)))]) (fun r=>[(4,fun w=>Fs w0 w (oa r 4) (nb r 4) (dE B.length)),(6,fun w=>Fs w0 w (oa r 6) (nb r 6) (B++(dE B.length)))]) (fun r=>(fun w=>Bs w a c B/\FM w/\F9 w/\Fs w0 w (oa r 4) (nb r 4) (dE B.length)/\Fs w0 w (oa r 6) (nb r 6) (B++(dE B.length))/\True)) (fun _=>True) (fun _ _ hF hf=>⟨⟨hF.1,hF.2.1,hF.2.2.1,hf 4,hf 6,trivial⟩,trivial⟩) (jY 3<|cA (v:=fun r=>(dJ (IQ.wrap (B.length:Int)))) (fun _=>(vx B.length)) (fun _=>congrArg (IM .u64) (u64N (oB (dF B) (aV B.length))))<|qBc (fun _=>pad_any B.length (oB (dF B) (aV B.length)) _)<|jY 1<|cX (qB (fun r _ w hG=>shrow2_any (nb r 5) a c B (oa r 4) (nb r 4) (dE B.length) (oB (Gx B.length) (aV B.length)) h0 w (Kb.xB (hG.kn (g:=nb r 5) (o:=(cL #[aW a B.length c,gW (dE B.length) (oa r 4) (nb r 4)] 35)) 41)) hG.fn.1 (show Fs w0 w (oa r 4) (nb r 4) (dE B.length) from (hG.facts 4 rfl).now).1))<|jX 1) (fun r2 _=>sS f48 3 [2,3,4] [] (fun r=>[qy34,bG r 1,JQ]) (fun r=>[(1,(nw r 1 qy122)),(2,(mQ 9 (nb r 1) qy146))]) (nM (v:=fun r=>qy34) (fun hG=>ld_blkA (off:=0) (vs:=[cO 1779033703,cO 3144134277,cO 1013904242,cO 2773480762,cO 1359893119,cO 2600822924,cO 528734635,cO 1541459225]) isAgg111 sizeOf111 hG.fn.2.2.1 rfl (fun _ _=>by rw [Nat.zero_add];simp))<|jE [[],[9]]) (fun r3=>aC (aY f48 4 [2,3,4,18,19] [] [gW (B++(dE B.length)) (oa r2 6) (nb r2 6),Ik (B++(dE B.length)),vn ((B++(dE B.length)).length / 64),vi 0] [] (jY 2<|cB (a:=fun r=>(Ik (B++(dE B.length)))) (b:=fun r=>(vi 64)) (v:=fun r=>(vn ((B++(dE B.length)).length / 64))) .quo 3 (fun _ w=>EH (n:=(B++(dE B.length)).length) (d:=64) dC (oB (dF B) (aV B.length)) w)<|jX 1) (aJ ?_))))))
 refine oL (σ:=Nat × Nat × Nat × Nat × Nat × Nat × Nat × Nat × Nat) (fun ⟨i,_,_,_,_,_,_,_,_⟩=>[(2,(bG r1 0)),(3,(gW (B++(dE B.length)) (oa r2 6) (nb r2 6))),(4,(bG r3 1)),(18,(vn ((B++(dE B.length)).length / 64))),(19,(vn i))]) (fun ⟨_,t0,t1,t2,t3,t4,t5,t6,t7⟩=>[(nb r1 0,(cL (hB 0) 47)),(nb r3 1,(cL #[vu t0,vu t1,vu t2,vu t3,vu t4,vu t5,vu t6,vu t7] 111))]) (fun ⟨i,_,_,_,_,_,_,_,_⟩=>(B++(dE B.length)).length / 64-i)
  (fun ⟨i,t0,t1,t2,t3,t4,t5,t6,t7⟩=>(i<=(B++(dE B.length)).length / 64)/\(shaS (B++(dE B.length)) i=(t0,t1,t2,t3,t4,t5,t6,t7))) (0,1779033703,3144134277,1013904242,2773480762,1359893119,2600822924,528734635,1541459225) (⟨I4 _,rfl⟩) [] ?_
 rintro ⟨i,t0,t1,t2,t3,t4,t5,t6,t7⟩ ⟨hi,hQ⟩
 refine jJ f48 1 [2,3,4,18,19,20] [.bool (decide ((i:Int)<(((B++(dE B.length)).length / 64:Nat):Int)))] (aC (oC (decide ((i:Int)<(((B++(dE B.length)).length / 64:Nat):Int))) (fun y1=>?_) (fun y1=>?_)))
 ·rw [y1]
  have:=yT y1
  refine aI (aA (aC (aJ (jJ f48 2 [2,3,4,5,18,19] [vn i,vn i] (rDf f48 [0,0,0,4,14,30,62,127,255] 9 [2,3,4,18,19] [] (fun _=>let qa:=oQ (t0,t1,t2,t3,t4,t5,t6,t7) ((nT (B++(dE B.length)) (64*i) (B++(dE B.length)).length).take 64);let qb:=nT (B++(dE B.length)) (64*i) (B++(dE B.length)).length;[.agg #[vu t0,vu t1,vu t2,vu t3,vu t4,vu t5,vu t6,vu t7],gW (B++(dE B.length)) (oa r2 6) (nb r2 6),vn i,vn (64*i),aW (yI (oa r2 6) (64*i) (nb r2 6)) qb.length ((nb r2 6)-(64*i)),pX (yI (oa r2 6) (64*i) (nb r2 6)),H7 (qb.take 64),.agg #[vu (qa.1),vu (qa.2.1),vu (qa.2.2.1),vu (qa.2.2.2.1),vu (qa.2.2.2.2.1),vu (qa.2.2.2.2.2.1),vu (qa.2.2.2.2.2.2.1),vu (qa.2.2.2.2.2.2.2)],JQ]) (fun _=>let qa:=oQ (t0,t1,t2,t3,t4,t5,t6,t7) ((nT (B++(dE B.length)) (64*i) (B++(dE B.length)).length).take 64);[(8,(mQ 1 (nb r3 1) (cL #[vu (qa.1),vu (qa.2.1),vu (qa.2.2.1),vu (qa.2.2.2.1),vu (qa.2.2.2.2.1),vu (qa.2.2.2.2.2.1),vu (qa.2.2.2.2.2.2.1),vu (qa.2.2.2.2.2.2.2)] 111)))]) (fun _=>[(4,fun w=>Bs w (yI (oa r2 6) (64*i) (nb r2 6)) ((nb r2 6)-(64*i)) (nT (B++(dE B.length)) (64*i) (B++(dE B.length)).length))]) (fun _=>(fun w=>Bs w a c B/\FM w/\F9 w/\Fs w0 w (oa r2 4) (nb r2 4) (dE B.length)/\Fs w0 w (oa r2 6) (nb r2 6) (B++(dE B.length))/\Bs w (yI (oa r2 6) (64*i) (nb r2 6)) ((nb r2 6)-(64*i)) (nT (B++(dE B.length)) (64*i) (B++(dE B.length)).length)/\True)) (fun _=>True) (fun _ _ hF hf=>⟨⟨hF.1,hF.2.1,hF.2.2.1,hF.2.2.2.1,hF.2.2.2.2.1,hf 4,trivial⟩,trivial⟩) (cR [[1],[],[]]<|oD (nG 64 i (oB (dF B) (aV B.length)))<|cX (jF (fun _=>Instr.sliceAt 35 (gW (B++(dE B.length)) (oa r2 6) (nb r2 6)) (sJ (64*i)) none none) (fun _=>(gW (nT (B++(dE B.length)) (64*i) (B++(dE B.length)).length) (yI (oa r2 6) (64*i) (nb r2 6)) ((nb r2 6)-(64*i)))) (fun _ _ _ hG=>Bv (l:=64*i) (k:=(B++(dE B.length)).length) underlying35 uT hG.fn.2.2.2.2.1.1 rfl (Jq (congrArg (fun z=>some (IM .i64 z)) (rfl))) (Jp ⟨rfl,rfl⟩) (oB (dF B) (aV B.length)) (IK _)) (fun _ _ w hG=>hG.iE.mono (fun _ hF=>hF.2.2.2.2.1.1.nT (oB (dF B) (aV B.length)) (IK _))))<|cX (jF (fun _=>Instr.arrayAt 113 (gW (nT (B++(dE B.length)) (64*i) (B++(dE B.length)).length) (yI (oa r2 6) (64*i) (nb r2 6)) ((nb r2 6)-(64*i)))) (fun _=>(pX (yI (oa r2 6) (64*i) (nb r2 6)))) (fun _ _ _ _=>arr_bytes underlying113 (by rw [oJ _ _ _ (IK _)];have:=dF B;have:=aV B.length;omega)) (fun _ _ _ _=>iD))<|cX (qF (fun _ _ w hG=>ld_arr isAgg113 sizeOf113 (show Bs w (yI (oa r2 6) (64*i) (nb r2 6)) ((nb r2 6)-(64*i)) (nT (B++(dE B.length)) (64*i) (B++(dE B.length)).length) from (hG.facts 4 rfl).now) (by rw [oJ _ _ _ (IK _)];have:=dF B;have:=aV B.length;omega) dC))<|zW (fun hG=>compress_any t0 t1 t2 t3 t4 t5 t6 t7 ((nT (B++(dE B.length)) (64*i) (B++(dE B.length)).length).take 64) (hQ ▸ EL (B++(dE B.length)) i) (by rw [Jm,oJ _ _ _ (IK _)];have:=dF B;have:=aV B.length;omega) _ hG.fn.2.1)<|jE [[1]]) (fun _ _=>aH (aA (lV f48 2 [2,3,4,18,19] [] [vn (i+1),vn (i+1)] [] (oD (bF i 1 (oB (dF B) (aV B.length)))<|jX 1) (mt_facts (fun w=>Bs w a c B/\FM w/\F9 w/\Fs w0 w (oa r2 4) (nb r2 4) (dE B.length)/\Fs w0 w (oa r2 6) (nb r2 6) (B++(dE B.length))/\True) (fun w hF=>⟨hF.1,hF.2.1,hF.2.2.1,hF.2.2.2.1,hF.2.2.2.2.1,trivial⟩) ?_)))))))))
  exact mN (i+1,(oQ (t0,t1,t2,t3,t4,t5,t6,t7) ((nT (B++(dE B.length)) (64*i) (B++(dE B.length)).length).take 64)).1,(oQ (t0,t1,t2,t3,t4,t5,t6,t7) ((nT (B++(dE B.length)) (64*i) (B++(dE B.length)).length).take 64)).2.1,(oQ (t0,t1,t2,t3,t4,t5,t6,t7) ((nT (B++(dE B.length)) (64*i) (B++(dE B.length)).length).take 64)).2.2.1,(oQ (t0,t1,t2,t3,t4,t5,t6,t7) ((nT (B++(dE B.length)) (64*i) (B++(dE B.length)).length).take 64)).2.2.2.1,(oQ (t0,t1,t2,t3,t4,t5,t6,t7) ((nT (B++(dE B.length)) (64*i) (B++(dE B.length)).length).take 64)).2.2.2.2.1,(oQ (t0,t1,t2,t3,t4,t5,t6,t7) ((nT (B++(dE B.length)) (64*i) (B++(dE B.length)).length).take 64)).2.2.2.2.2.1,(oQ (t0,t1,t2,t3,t4,t5,t6,t7) ((nT (B++(dE B.length)) (64*i) (B++(dE B.length)).length).take 64)).2.2.2.2.2.2.1,(oQ (t0,t1,t2,t3,t4,t5,t6,t7) ((nT (B++(dE B.length)) (64*i) (B++(dE B.length)).length).take 64)).2.2.2.2.2.2.2) (by show (B++(dE B.length)).length / 64-(i+1)<(B++(dE B.length)).length / 64-i;have:=dF B;have:=aV B.length;omega) (⟨(oB (dF B) (aV B.length)),sha_next hQ (oB (dF B) (aV B.length))⟩) []
 rw [y1]
 have:=yF y1
 refine bC (aF (aF (aO (aA (sS f48 1 [2,4,6] [] (fun r=>[bG r 0]) (fun r=>(pO 0 r (hB 0) 47)) (jX 1) (fun r9=>aC (jJ f48 1 [2,4,6,31] [vi 0] (aJ ?_))))))))
 refine oL (σ:=Nat × (Array JR)) (fun ⟨m,_⟩=>[(2,(bG r1 0)),(4,(bG r3 1)),(6,(bG r9 0)),(31,(vn m))]) (fun ⟨_,C⟩=>[(nb r1 0,(cL (hB 0) 47)),(nb r3 1,(cL #[vu t0,vu t1,vu t2,vu t3,vu t4,vu t5,vu t6,vu t7] 111)),(nb r9 0,(cL C 47))]) (fun ⟨m,_⟩=>32-m)
  (fun ⟨m,C⟩=>(m<=32)/\(C=gY .u8 32 (GM (t0,t1,t2,t3,t4,t5,t6,t7) m))) (0,hB 0) (⟨by decide,hB0_row (t0,t1,t2,t3,t4,t5,t6,t7)⟩) [] ?_
 rintro ⟨m,C⟩ ⟨hm,hC⟩
 refine jJ f48 1 [2,4,6,31,32] [.bool (decide ((m:Int)<32))] (aC (oC (decide ((m:Int)<32)) (fun y2=>?_) (fun y2=>?_)))
 ·rw [y2]
  have:=yT y2
  refine aI (aA (aC (aJ (jJ f48 2 [2,4,6,7,31] [vn m,vn m] (lV f48 13 [2,4,6,31] [] [vn m,vn m,vn (m / 4),jp (nb r3 1) (m / 4),vu (tX (t0,t1,t2,t3,t4,t5,t6,t7) (m / 4)),vn m,vn (m%4),vn ((m%4)*8),vn (24-m%4*8),vu (tX (t0,t1,t2,t3,t4,t5,t6,t7) (m / 4) / 2^(24-m%4*8)),Aq (t0,t1,t2,t3,t4,t5,t6,t7) (m / 4) 2 (24-m%4*8) 256,bH r9 0 m,JQ] [(12,(jD 2 r9 0 (C.setIfInBounds m (Aq (t0,t1,t2,t3,t4,t5,t6,t7) (m / 4) 2 (24-m%4*8) 256)) 47))] (jY 2<|cB (a:=fun r=>(vn m)) (b:=fun r=>(vi 4)) (v:=fun r=>(vn (m / 4))) .quo 3 (fun _ w=>EH (n:=m) (d:=4) dC (oB (dF B) (aV B.length)) w)<|pI (II 111 (bG r3 1) (vn (m / 4))) (jp (nb r3 1) (m / 4)) (bK (n:=((m / 4:Nat):Int)) (i:=m / 4) underlying111 sizeOf45 (oB (dF B) (aV B.length)))<|uP 1 45 (nb r3 1) (m / 4) (#[vu t0,vu t1,vu t2,vu t3,vu t4,vu t5,vu t6,vu t7]) 111 (vu (tX (t0,t1,t2,t3,t4,t5,t6,t7) (m / 4))) isAgg45 (sel_get (oB (dF B) (aV B.length)))<|jY 1<|cB (a:=fun r=>(vn m)) (b:=fun r=>(vi 4)) (v:=fun r=>(vn (m%4))) .rem 3 (fun _ w=>xC (k:=.i64) (n:=m) (d:=4) dC w)<|oD (nG (m%4) 8 (oB (dF B) (aV B.length)))<|DV (24-(((m%4)*8:Nat):Int)) (24-m%4*8) ((pY (oB (dF B) (aV B.length))).trans om)<|cB (a:=fun r=>(vu (tX (t0,t1,t2,t3,t4,t5,t6,t7) (m / 4)))) (b:=fun r=>(vn (24-m%4*8))) (v:=fun r=>(vu (tX (t0,t1,t2,t3,t4,t5,t6,t7) (m / 4) / 2^(24-m%4*8)))) .shr 45 (fun _ w=>pM (k:=.u32) (x:=tX (t0,t1,t2,t3,t4,t5,t6,t7) (m / 4)) (c:=24-m%4*8) (sel8_lt (hQ ▸ EL _ i) _) w)<|eU (Aq (t0,t1,t2,t3,t4,t5,t6,t7) (m / 4) 2 (24-m%4*8) 256) (congrArg (IM .u8) (u8M (tX (t0,t1,t2,t3,t4,t5,t6,t7) (m / 4) / 2^(24-m%4*8))))<|pI (II 47 (bG r9 0) (vn m)) (bH r9 0 m) (bK (n:=(m:Int)) (i:=m) underlying47 sizeOf5 (oB (dF B) (aV B.length)))<|CW 2 5 (nb r9 0) m C (C.setIfInBounds m (Aq (t0,t1,t2,t3,t4,t5,t6,t7) (m / 4) 2 (24-m%4*8) 256)) 47 (Aq (t0,t1,t2,t3,t4,t5,t6,t7) (m / 4) 2 (24-m%4*8) 256) sizeOf5 (by rw [hC,nH];have:=dF B;have:=aV B.length;omega) rfl<|cN) (aH (aA (lV f48 2 [2,4,6,31] [] [vn (m+1),vn (m+1)] [] (oD (bF m 1 (oB (dF B) (aV B.length)))<|jX 1) (?_)))))))))
  exact mN (m+1,C.setIfInBounds m (Aq (t0,t1,t2,t3,t4,t5,t6,t7) (m / 4) 2 (24-m%4*8) 256)) (by show 32-(m+1)<32-m;have:=dF B;have:=aV B.length;omega) (⟨(oB (dF B) (aV B.length)),by rw [hC];exact Ht rfl⟩) []
 rw [y2]
 refine bC (aF (aF (aO ?_)))
 rw [hC]
 refine aA (aY f48 2 [2] [1,0,0] [bW (gY .u8 32 (GM (t0,t1,t2,t3,t4,t5,t6,t7) m)),JQ] [(1,(mF 0 r1 (gY .u8 32 (GM (t0,t1,t2,t3,t4,t5,t6,t7) m)) 47))] (nM (fun hG=>Eo isAgg47 sizeOf47 (hG.kn (g:=nb r9 0) (o:=(cL (gY .u8 32 (GM (t0,t1,t2,t3,t4,t5,t6,t7) m)) 47)) 2) (nH _ _ _))<|jE [[0]]) (aG ?_))
 exact mR (v:=(bW (gY .u8 32 (GM (t0,t1,t2,t3,t4,t5,t6,t7) m)))) (fun _ hS=>⟨congrArg IJ (congrArg JL ((dgf_end (by have:=yF y2;have:=dF B;have:=aV B.length;omega)).trans (congrArg hB (sha_end hQ (by have:=yF y2;have:=dF B;have:=aV B.length;omega))))),hS.dM⟩)
theorem tagged_any (T:LU) (a:OA) (c:Nat) (B:LU) (hT:0<T.length/\T.length<=1000) (hl:B.length+200<=140737488351232) (w0:JS) (hf0:Bs w0 a c B) (hf1:FM w0) (hf2:F9 w0):Calls prog 27 #[kD (dH T),aW a B.length c] w0 (jR (oG (l9 T B)) w0):=by
 refine Calls.cW 15 (fun w=>Bs w a c B/\FM w/\F9 w/\True) func27 rfl rfl rfl (hf0.dW.and (hf1.dW.and (hf2.dW.and iD))) (sS f27 1 [0,1,4] [] (fun r=>[bG r 0]) (fun r=>(pO 0 r (hB 0) 47)) (jX 1) (fun r1=>wW f27 5 [1,4,5] [] (fun r=>[aU T,aW (oa r 1) T.length (nb r 1),oG (iO T),bG r 3,JQ]) (fun r=>[(3,(fB r 3 (hB 0) 47)),(4,(jD 25 r 3 (hB (iO T)) 47))]) (fun r=>[(1,fun w=>Fs w0 w (oa r 1) (nb r 1) T)]) (fun r=>(fun w=>Bs w a c B/\FM w/\F9 w/\Fs w0 w (oa r 1) (nb r 1) T/\True)) (fun _=>True) (fun _ _ hF hf=>⟨⟨hF.1,hF.2.1,hF.2.2.1,hf 1,trivial⟩,trivial⟩) (jY 1<|cX (o_newF _ (fun _=>do pure (I5 (<- convert 9 35 (aU T)))) (fun _ α κ=>(aW α T.length κ)) (fun _=>T) (fun _ _=>kr) (fun _=>kr) (fun _ _=>kr) (fun _ _ w _=>EW underlying9 underlying35 underlying5 T om w))<|cX (qC (fun r _ w hG=>sum_any (oa r 1) (nb r 1) T hT.1 om w (show Fs w0 w (oa r 1) (nb r 1) T from (hG.facts 1 rfl).now).1 hG.fn.2.1 hG.fn.2.2.1))<|jE [[],[25]]) (fun r2 _=>sDf f27 [0,0,0,7,15,31,63] 7 [4] [1,0,0] (fun r=>let qa:=vs (nb r2 3) (hL (iO T)).length 32;[qa,qa,aW a B.length c,vs (nb r 3) 3 3,gW (((hL (iO T))++(hL (iO T)))++B) (oa r 4) (nb r 4),oG (iO (((hL (iO T))++(hL (iO T)))++B)),JQ]) (fun r=>let qa:=vs (nb r2 3) (hL (iO T)).length 32;[(3,(nw r 3 (cL #[qa,qa,aW a B.length c] 35))),(6,(mF 0 r1 (hB (iO (((hL (iO T))++(hL (iO T)))++B))) 47))]) (fun r=>[(4,fun w=>Fs w0 w (oa r 4) (nb r 4) (((hL (iO T))++(hL (iO T)))++B))]) (fun r=>(fun w=>Bs w a c B/\FM w/\F9 w/\Fs w0 w (oa r2 1) (nb r2 1) T/\Fs w0 w (oa r 4) (nb r 4) (((hL (iO T))++(hL (iO T)))++B)/\True)) (fun _=>True) (fun _ _ hF hf=>⟨⟨hF.1,hF.2.1,hF.2.2.1,hF.2.2.2.1,hf 4,trivial⟩,trivial⟩) (jY 4<|cX (qB (fun r _ w hG=>shrow3_any (nb r 3) (rF r2 3 0) 32 (hL (iO T)) (rF r2 3 0) 32 (hL (iO T)) a c B (by simp only [aT];omega) (by rw [aT];decide) w (Kb.xB (hG.kn (g:=nb r 3) (o:=(cL #[vs (nb r2 3) (hL (iO T)).length 32,vs (nb r2 3) (hL (iO T)).length 32,aW a B.length c] 35)) 26)) (Bs.o7 (c:=32) (hG.kn (g:=nb r2 3) (o:=(cL (hB (iO T)) 47)) 1) (DK _) (IK _) lb) (Bs.o7 (c:=32) (hG.kn (g:=nb r2 3) (o:=(cL (hB (iO T)) 47)) 1) (DK _) (IK _) lb) hG.fn.1))<|cX (qC (fun r _ w hG=>sum_any (oa r 4) (nb r 4) (((hL (iO T))++(hL (iO T)))++B) (by simp only [IL,aT];omega) (by simp only [IL,aT];omega) w (show Fs w0 w (oa r 4) (nb r 4) (((hL (iO T))++(hL (iO T)))++B) from (hG.facts 4 rfl).now).1 hG.fn.2.1 hG.fn.2.2.1))<|jE [[0]]) (fun _ _=>aG ?_))))
 exact mR (v:=(oG (iO (((hL (iO T))++(hL (iO T)))++B)))) (fun _ hS=>⟨congrArg IJ (congrArg (fun z=>JL (hB z)) (by rw [l9,hL_sha])),hS.dM⟩)
abbrev qy126:=fun p0 p1 p2=>[(0,(fB p0 0 (cU p1) 54)),(1,(fB p0 1 (cU p2) 54)),(2,(fB p0 2 (cU 0) 54))]
theorem reduce_w (a:Nat) (m:Nat) (ha:a<M) (hm:m<M) (w0:JS):Calls prog 181 #[U a,U m] w0 (jR (U (fQ a m)) w0):=by
 refine Calls.cW 22 (fun _=>True) func181 rfl rfl rfl jT (sS f181 3 [2,3,4] [] (fun r=>[bG r 0,bG r 1,bG r 2]) (fun r=>(qy126 r a m)) (jX 3) (fun r1=>aC (aY f181 4 [2,3,4,11] [] [U a,U m,vi (pF a m),.bool (decide ((pF a m)<0))] [] (cR [[0],[1]]<|cC (fun _ w=>E8 a m w ha hm)<|jX 1) (oC (decide ((pF a m)<0)) (fun b1=>?_) (fun b1=>?_)))))
 ·rw [b1]
  refine aY f181 2 [2,3,4] [] [U a,JQ] [(1,(mF 2 r1 (cU a) 54))] (jE [[0],[2]]) (aG (aB ?_))
  exact mR (v:=(U a)) (ps:=[2,2,2,2]) (fun _ hS=>⟨congrArg (fun x=>IJ (U x)) (red_lt b1),hS.dM⟩)
 rw [b1]
 refine aI (aA (sS f181 13 [4,6] [0,0,1,0,1] (fun r=>let qa:JR:=.bool (decide (0<m));[U 0,U a,U m,qy159 0 a m qa,qy159 0 a m qa,U (wY 0 a m),U (rZ 0 a m),qa,bG r 8,bG r 9,JQ,JQ,qa]) (fun r=>[(8,(fB r 8 (cU 0) 54)),(9,(fB r 9 (cU 0) 54)),(10,(jD 67 r 8 (cU (wY 0 a m)) 54)),(11,(jD 75 r 9 (cU (rZ 0 a m)) 54))]) (cR [[],[0],[1]]<|cC (fun _ w=>div_any 0 a m w dK ha hm)<|jE [[],[],[],[],[],[],[67],[75],[]]) (fun _=>aY f181 2 [4] [1,0] [U (rZ 0 a m),JQ] [(1,(jD 0 r1 2 (cU (rZ 0 a m)) 54))] (jE [[1],[0]]) (aG ?_))))
 exact mR (v:=(U (rZ 0 a m))) (fun _ hS=>⟨congrArg (fun x=>IJ (U x)) (red_div b1),hS.dM⟩)
theorem reduce_any (a m:Nat) (w0:JS) (ha:a<M) (hm:m<M):Calls prog 181 #[U a,U m] w0 (jR (U (fQ a m)) w0):=reduce_w a m ha hm w0
theorem rreduce_w (a:Nat) (m:Nat) (ha:a<M) (hm:m<M) (w0:JS):Calls prog 176 #[U a,U m] w0 (jR (U (fQ a m)) w0):=by
 refine Calls.cW 17 (fun _=>True) func176 rfl rfl rfl jT (sS f176 3 [2,3,4] [] (fun r=>[bG r 0,bG r 1,bG r 2]) (fun r=>(qy126 r a m)) (jX 3) (fun r1=>sS f176 13 [4,6] [0,0,1,0,1] (fun r=>let qa:JR:=.bool (decide (0<m));[U 0,U a,U m,qy159 0 a m qa,qy159 0 a m qa,U (wY 0 a m),U (rZ 0 a m),qa,bG r 8,bG r 9,JQ,JQ,qa]) (fun r=>[(8,(fB r 8 (cU 0) 54)),(9,(fB r 9 (cU 0) 54)),(10,(jD 67 r 8 (cU (wY 0 a m)) 54)),(11,(jD 75 r 9 (cU (rZ 0 a m)) 54))]) (cR [[],[0],[1]]<|cC (fun _ w=>rdiv_any 0 a m w dK ha hm)<|jE [[],[],[],[],[],[],[67],[75],[]]) (fun _=>aY f176 2 [4] [1,0] [U (rZ 0 a m),JQ] [(1,(jD 0 r1 2 (cU (rZ 0 a m)) 54))] (jE [[1],[0]]) (aG ?_))))
 exact mR (v:=(U (rZ 0 a m))) (fun _ hS=>⟨congrArg (fun x=>IJ (U x)) (red_div0 a m),hS.dM⟩)
theorem Ez (a m:Nat) (w0:JS) (ha:a<M) (hm:m<M):Calls prog 176 #[U a,U m] w0 (jR (U (fQ a m)) w0):=rreduce_w a m ha hm w0
theorem mul64_any (x y:Int) (hx:jH x) (hy:jH y) (w:JS):Calls prog 154 #[dJ x,dJ y] w fun ε w'=>ε=.returned (.tuple #[dJ (xQ x y),dJ (fO x y)])/\Below w.heap.size w w':=by
 obtain ⟨x,rfl⟩:=Jg hx.1
 obtain ⟨y,rfl⟩:=Jg hy.1
 refine (mul64_nat x y (oA hx.2) (oA hy.2) w).mono ?_
 rintro e w' ⟨rfl,rfl⟩
 refine ⟨?_,Below.refl _ _⟩
 unfold xQ fO
 rw [Int.natCast_ediv,Int.natCast_emod,Int.natCast_mul];rfl
abbrev qy87:=fun p0 p1=>(.tuple #[dJ (fU p0 p1 0),dJ (gZ p0 p1 0)]:JR)
abbrev qy102:=fun p0 p1 p2 p3 p4=>[(nb p0 0,(cL (cU p1) 54)),(nb p0 1,(cL (cU p2) 54)),(nb p0 2,(cL (cU 0) 54)),(nb p0 3,(cL (cU 0) 54)),(nb p3 0,(cL (c8 p4) 178))]
abbrev rG:=fun p0 p1=>(.tuple #[p0,p1]:JR)
abbrev qy188:=fun p0=>nw p0 0 (cL #[rP 0,rP 0,rP 0,rP 0,rP 0,rP 0,rP 0,rP 0] 178)
abbrev qy227:=fun p0 p1=>(.tuple #[U (p0*p1 / M),U (p0*p1%M)]:JR)
theorem mul_w (a:Nat) (b:Nat) (ha:a<M) (h:b<M) (w0:JS):Calls prog 179 #[U a,U b] w0 (jR (qy227 a b) w0):=by
 refine Calls.cW 69 (fun _=>True) func179 rfl rfl rfl jT (sS f179 4 [2,3,4,5] [] (fun r=>[bG r 0,bG r 1,bG r 2,bG r 3]) (fun r=>[(0,(fB r 0 (cU a) 54)),(1,(fB r 1 (cU b) 54)),(2,(fB r 2 (cU 0) 54)),(3,(fB r 3 (cU 0) 54))]) (jX 4) (fun r1=>sS f179 1 [2,3,4,5,6] [] (fun r=>[bG r 0]) (fun r=>[(0,(qy188 r))]) (jX 1) (fun r2=>aC (jJ f179 1 [2,3,4,5,6,14] [vi 0] (aJ ?_)))))
 refine oL (σ:=Nat × (Nat->Int)) (fun ⟨i,_⟩=>[(2,(bG r1 0)),(3,(bG r1 1)),(4,(bG r1 2)),(5,(bG r1 3)),(6,(bG r2 0)),(14,(vn i))]) (fun ⟨_,f⟩=>(qy102 r1 a b r2 f)) (fun ⟨i,_⟩=>4-i)
  (fun ⟨i,f⟩=>(i<=4)/\(MulO a b i f)) (0,(fun _=>0)) (⟨by omega,mulO_zero a b⟩) [] ?_
 rintro ⟨i,f⟩ ⟨hi,hO⟩
 refine jJ f179 1 [2,3,4,5,6,14,15] [.bool (decide ((i:Int)<4))] (aC (oC (decide ((i:Int)<4)) (fun h1=>?_) (fun h1=>?_)))
 ·rw [h1]
  have:=yT h1
  refine aI (aA (aC (aJ (jJ f179 2 [2,3,4,5,6,7,14] [vn i,vn i] (jJ f179 1 [2,3,4,5,6,7,8,14] [rP 0] (aC (jJ f179 1 [2,3,4,5,6,7,8,14,17] [vi 0] (aJ ?_))))))))
  refine oL (σ:=Nat × (Nat->Int) × Int) (fun ⟨j,_,c⟩=>[(2,(bG r1 0)),(3,(bG r1 1)),(4,(bG r1 2)),(5,(bG r1 3)),(6,(bG r2 0)),(7,(vn i)),(8,(dJ c)),(14,(vn i)),(17,(vn j))]) (fun ⟨_,u,_⟩=>(qy102 r1 a b r2 u)) (fun ⟨j,_,_⟩=>4-j)
   (fun ⟨j,u,c⟩=>(j<=4)/\(MulI a b i j u c)) (0,f,0) (⟨by omega,mulO_begin hO⟩) [] ?_
  rintro ⟨j,u,c⟩ ⟨hj,hM⟩
  refine jJ f179 1 [2,3,4,5,6,7,8,14,17,18] [.bool (decide ((j:Int)<4))] (aC (oC (decide ((j:Int)<4)) (fun h2=>?_) (fun h2=>?_)))
  ·rw [h2]
   have:=yT h2
   refine aI (aA (aC (aJ (jJ f179 2 [2,3,4,5,6,7,8,9,14,17] [vn j,vn j] (Au f179 [0,1,3,0,8,24,63,127,255,255,511,2047] 12 [2,3,4,5,6,7,8,9,10,11,14,17] [] (let qa:JR:=.int .u64 (xQ (wd a i) (wd b j));let qb:JR:=.int .u64 (fO (wd a i) (wd b j));[vn i,bH r1 0 i,dJ (wd a i),vn j,bH r1 1 j,dJ (wd b j),rG qa qb,rG qa qb,qa,qb,qa,qb]) [] (jY 1<|pI (II 54 (bG r1 0) (vn i)) (bH r1 0 i) (bK (n:=(i:Int)) (i:=i) underlying54 sizeOf52 (⟨rfl,by omega⟩))<|uP 0 52 (nb r1 0) i (cU a) 54 (dJ (wd a i)) isAgg52 (vK a i om)<|jY 1<|pI (II 54 (bG r1 1) (vn j)) (bH r1 1 j) (bK (n:=(j:Int)) (i:=j) underlying54 sizeOf52 (⟨rfl,by omega⟩))<|uP 1 52 (nb r1 1) j (cU b) 54 (dJ (wd b j)) isAgg52 (vK b j om)<|oO (mul64_any (wd a i) (wd b j) (dA a i) (dA b j))<|jX 5) (aY f179 12 [2,3,4,5,6,7,8,9,10,12,13,14,17] [] (let qa:JR:=.int .u64 (fU (fO (wd a i) (wd b j)) (u (i+j)) 0);let qb:JR:=.int .u64 (gZ (fO (wd a i) (wd b j)) (u (i+j)) 0);[dJ (fO (wd a i) (wd b j)),vn i,vn j,vn (i+j),sF r2 0 i j,dJ (u (i+j)),rG qa qb,rG qa qb,qa,qb,qa,qb]) [] (jY 3<|oD (iW i j om)<|pI (II 178 (bG r2 0) (vn (i+j))) (sF r2 0 i j) (bK (n:=((i+j:Nat):Int)) (i:=i+j) underlying178 sizeOf52 (⟨rfl,by omega⟩))<|uP 4 52 (nb r2 0) (i+j) (c8 u) 178 (dJ (u (i+j))) isAgg52 (c8_get u (i+j) om)<|cX (o_sem _ (fun _=>callFunc 155 #[dJ (fO (wd a i) (wd b j)),dJ (u (i+j)),rP 0]) (fun _=>(qy87 (fO (wd a i) (wd b j)) (u (i+j)))) (fun _=>kr) (fun _=>kr) (fun _ w=>(add64 (fO (wd a i) (wd b j)) (u (i+j)) 0 (Gp _ _) (hM.word _) sW) w))<|jX 5) (jJ f179 4 [2,3,4,5,6,7,8,9,10,12,13,14,17] (let qa:JR:=.int .u64 (IQ.wrap ((xQ (wd a i) (wd b j))+(gZ (fO (wd a i) (wd b j)) (u (i+j)) 0)));[dJ (xQ (wd a i) (wd b j)),dJ (gZ (fO (wd a i) (wd b j)) (u (i+j)) 0),qa,qa]) (aY f179 8 [2,3,4,5,6,7,8,9,10,12,13,14,17] [] (let qa:=fU (fO (wd a i) (wd b j)) (u (i+j)) 0;let qb:JR:=.int .u64 (fU qa c 0);let qc:JR:=.int .u64 (gZ qa c 0);[dJ qa,dJ c,rG qb qc,rG qb qc,qb,qc,qb,qc]) [] (jY 2<|cX (o_sem _ (fun _=>callFunc 155 #[dJ (fU (fO (wd a i) (wd b j)) (u (i+j)) 0),dJ c,rP 0]) (fun _=>(qy87 (fU (fO (wd a i) (wd b j)) (u (i+j)) 0) c)) (fun _=>kr) (fun _=>kr) (fun _ w=>(add64 (fU (fO (wd a i) (wd b j)) (u (i+j)) 0) c 0 (pJ _ _ _) hM.car sW) w))<|jX 5) (lV f179 10 [2,3,4,5,6,7,8,14,17] [] (let qa:=IQ.wrap ((xQ (wd a i) (wd b j))+(gZ (fO (wd a i) (wd b j)) (u (i+j)) 0));let qb:=fU (fO (wd a i) (wd b j)) (u (i+j)) 0;let qc:JR:=.int .u64 (IQ.wrap (qa+(gZ qb c 0)));[vn i,vn j,vn (i+j),dJ (fU qb c 0),dJ qa,dJ (gZ qb c 0),qc,sF r2 0 i j,JQ,qc]) [(8,(jD 4 r2 0 (c8 (Be u (i+j) (fU (fU (fO (wd a i) (wd b j)) (u (i+j)) 0) c 0))) 178))] (jY 2<|oD (iW i j om)<|jY 4<|pI (II 178 (bG r2 0) (vn (i+j))) (sF r2 0 i j) (bK (n:=((i+j:Nat):Int)) (i:=i+j) underlying178 sizeOf52 (⟨rfl,by omega⟩))<|CW 4 52 (nb r2 0) (i+j) (c8 u) (c8 (Be u (i+j) (fU (fU (fO (wd a i) (wd b j)) (u (i+j)) 0) c 0))) 178 (dJ (fU (fU (fO (wd a i) (wd b j)) (u (i+j)) 0) c 0)) sizeOf52 (show _<8 from om) (c8_set u (i+j) (fU (fU (fO (wd a i) (wd b j)) (u (i+j)) 0) c 0) om)<|jX 1) (aH (aA (lV f179 2 [2,3,4,5,6,7,8,14,17] [] [vn (j+1),vn (j+1)] [] (oD (iW j 1 om)<|jX 1) (?_)))))))))))))
   exact mN (j+1,Be u (i+j) (fU (fU (fO (wd a i) (wd b j)) (u (i+j)) 0) c 0),IQ.wrap ((IQ.wrap ((xQ (wd a i) (wd b j))+(gZ (fO (wd a i) (wd b j)) (u (i+j)) 0)))+(gZ (fU (fO (wd a i) (wd b j)) (u (i+j)) 0) c 0))) (by show 4-(j+1)<4-j;omega) (⟨by omega,mulI_next om om hM (pJ _ _ _) (mul_step (dA a i) (dA b j) (hM.word _) hM.car).2 (mul_step (dA a i) (dA b j) (hM.word _) hM.car).1⟩) []
  rw [h2]
  refine bC (aF (aF (aO (aA (lV f179 5 [2,3,4,5,6,14] [] [vn i,vn (i+4),dJ c,sF r2 0 i 4,JQ] [(4,(jD 4 r2 0 (c8 (Be u (i+4) c)) 178))] (jY 1<|oD (iW i 4 om)<|jY 1<|pI (II 178 (bG r2 0) (vn (i+4))) (sF r2 0 i 4) (bK (n:=((i+4:Nat):Int)) (i:=i+4) underlying178 sizeOf52 (⟨rfl,by omega⟩))<|CW 4 52 (nb r2 0) (i+4) (c8 u) (c8 (Be u (i+4) c)) 178 (dJ c) sizeOf52 (show _<8 from om) (c8_set u (i+4) c om)<|cN) (aH (aA (lV f179 2 [2,3,4,5,6,14] [] [vn (i+1),vn (i+1)] [] (oD (iW i 1 om)<|jX 1) (?_)))))))))
  exact mN (i+1,Be u (i+4) c) (by show 4-(i+1)<4-i;omega) (⟨by omega,mulI_end om (by have:j=4:=(oA (yF h2));subst this;exact hM)⟩) []
 rw [h1]
 refine bC (aF (aF (aO (aA (Au f179 [0,1,3,0,8,24,7,127] 8 [4,5] [0,0,1,1,0] [.slice (rF r2 0 4) 4 4,bH r2 0 4,.agg #[dJ (f 4),dJ (f 5),dJ (f 6),dJ (f 7)],vs (nb r2 0) 4 8,bG r2 0,.agg #[dJ (f 0),dJ (f 1),dJ (f 2),dJ (f 3)],JQ,JQ] [(6,(mQ 2 (nb r1 2) (cL #[dJ (f 4),dJ (f 5),dJ (f 6),dJ (f 7)] 54))),(7,(mQ 3 (nb r1 3) (cL #[dJ (f 0),dJ (f 1),dJ (f 2),dJ (f 3)] 54)))] (jE [[],[],[4],[],[],[4],[2],[3]]) (aG ?_))))))
 exact mR (v:=(.tuple #[.agg #[dJ (f 4),dJ (f 5),dJ (f 6),dJ (f 7)],.agg #[dJ (f 0),dJ (f 1),dJ (f 2),dJ (f 3)]])) (ps:=[0,0,0,0,1,1,1,1]) (fun _ hS=>⟨mul_end ha h (by have:i=4:=(oA (yF h1));subst this;exact hO),hS.dM⟩)
theorem mul_any (a b:Nat) (w0:JS) (ha:a<M) (h:b<M):Calls prog 179 #[U a,U b] w0 (jR (qy227 a b) w0):=mul_w a b ha h w0
theorem rmul_w (a:Nat) (b:Nat) (ha:a<M) (h:b<M) (w0:JS):Calls prog 119 #[U a,U b] w0 (jR (qy227 a b) w0):=by
 refine Calls.cW 71 (fun _=>True) func119 rfl rfl rfl jT (sS f119 4 [2,3,4,5] [] (fun r=>[bG r 0,bG r 1,bG r 2,bG r 3]) (fun r=>[(0,(fB r 0 (cU a) 54)),(1,(fB r 1 (cU b) 54)),(2,(fB r 2 (cU 0) 54)),(3,(fB r 3 (cU 0) 54))]) (jX 4) (fun r1=>sS f119 1 [2,3,4,5,6] [] (fun r=>[bG r 0]) (fun r=>[(0,(qy188 r))]) (jX 1) (fun r2=>aC (jJ f119 1 [2,3,4,5,6,15] [vi 0] (aJ ?_)))))
 refine oL (σ:=Nat × (Nat->Int)) (fun ⟨i,_⟩=>[(2,(bG r1 0)),(3,(bG r1 1)),(4,(bG r1 2)),(5,(bG r1 3)),(6,(bG r2 0)),(15,(vn i))]) (fun ⟨_,f⟩=>(qy102 r1 a b r2 f)) (fun ⟨i,_⟩=>4-i)
  (fun ⟨i,f⟩=>(i<=4)/\(MulO a b i f)) (0,(fun _=>0)) (⟨by omega,mulO_zero a b⟩) [] ?_
 rintro ⟨i,f⟩ ⟨hi,hO⟩
 refine jJ f119 1 [2,3,4,5,6,15,16] [.bool (decide ((i:Int)<4))] (aC (oC (decide ((i:Int)<4)) (fun h1=>?_) (fun h1=>?_)))
 ·rw [h1]
  have:=yT h1
  refine aI (aA (aC (aJ (jJ f119 2 [2,3,4,5,6,7,15] [vn i,vn i] (jJ f119 1 [2,3,4,5,6,7,8,15] [rP 0] (aC (jJ f119 1 [2,3,4,5,6,7,8,15,18] [vi 0] (aJ ?_))))))))
  refine oL (σ:=Nat × (Nat->Int) × Int) (fun ⟨j,_,c⟩=>[(2,(bG r1 0)),(3,(bG r1 1)),(4,(bG r1 2)),(5,(bG r1 3)),(6,(bG r2 0)),(7,(vn i)),(8,(dJ c)),(15,(vn i)),(18,(vn j))]) (fun ⟨_,u,_⟩=>(qy102 r1 a b r2 u)) (fun ⟨j,_,_⟩=>4-j)
   (fun ⟨j,u,c⟩=>(j<=4)/\(MulI a b i j u c)) (0,f,0) (⟨by omega,mulO_begin hO⟩) [] ?_
  rintro ⟨j,u,c⟩ ⟨hj,hM⟩
  refine jJ f119 1 [2,3,4,5,6,7,8,15,18,19] [.bool (decide ((j:Int)<4))] (aC (oC (decide ((j:Int)<4)) (fun h2=>?_) (fun h2=>?_)))
  ·rw [h2]
   have:=yT h2
   refine aI (aA (aC (aJ (jJ f119 2 [2,3,4,5,6,7,8,9,15,18] [vn j,vn j] (Au f119 [0,1,3,0,8,24,63,127,255,255,511,2047] 12 [2,3,4,5,6,7,8,9,10,11,15,18] [] (let qa:JR:=.int .u64 (xQ (wd a i) (wd b j));let qb:JR:=.int .u64 (fO (wd a i) (wd b j));[vn i,bH r1 0 i,dJ (wd a i),vn j,bH r1 1 j,dJ (wd b j),rG qa qb,rG qa qb,qa,qb,qa,qb]) [] (jY 1<|pI (II 54 (bG r1 0) (vn i)) (bH r1 0 i) (bK (n:=(i:Int)) (i:=i) underlying54 sizeOf52 (⟨rfl,by omega⟩))<|uP 0 52 (nb r1 0) i (cU a) 54 (dJ (wd a i)) isAgg52 (vK a i om)<|jY 1<|pI (II 54 (bG r1 1) (vn j)) (bH r1 1 j) (bK (n:=(j:Int)) (i:=j) underlying54 sizeOf52 (⟨rfl,by omega⟩))<|uP 1 52 (nb r1 1) j (cU b) 54 (dJ (wd b j)) isAgg52 (vK b j om)<|oO (mul64_any (wd a i) (wd b j) (dA a i) (dA b j))<|jX 5) (aY f119 12 [2,3,4,5,6,7,8,9,10,12,13,15,18] [] (let qa:JR:=.int .u64 (fU (u (i+j)) (fO (wd a i) (wd b j)) 0);let qb:JR:=.int .u64 (gZ (u (i+j)) (fO (wd a i) (wd b j)) 0);[vn i,vn j,vn (i+j),sF r2 0 i j,dJ (u (i+j)),dJ (fO (wd a i) (wd b j)),rG qa qb,rG qa qb,qa,qb,qa,qb]) [] (jY 2<|oD (iW i j om)<|pI (II 178 (bG r2 0) (vn (i+j))) (sF r2 0 i j) (bK (n:=((i+j:Nat):Int)) (i:=i+j) underlying178 sizeOf52 (⟨rfl,by omega⟩))<|uP 4 52 (nb r2 0) (i+j) (c8 u) 178 (dJ (u (i+j))) isAgg52 (c8_get u (i+j) om)<|jY 1<|cX (o_sem _ (fun _=>callFunc 155 #[dJ (u (i+j)),dJ (fO (wd a i) (wd b j)),rP 0]) (fun _=>(qy87 (u (i+j)) (fO (wd a i) (wd b j)))) (fun _=>kr) (fun _=>kr) (fun _ w=>(add64 (u (i+j)) (fO (wd a i) (wd b j)) 0 (hM.word _) (Gp _ _) sW) w))<|jX 5) (aY f119 8 [2,3,4,5,6,7,8,9,10,12,13,14,15,18] [] (let qa:=fU (u (i+j)) (fO (wd a i) (wd b j)) 0;let qb:JR:=.int .u64 (fU qa c 0);let qc:JR:=.int .u64 (gZ qa c 0);[dJ qa,dJ c,rG qb qc,rG qb qc,qb,qc,qb,qc]) [] (jY 2<|cX (o_sem _ (fun _=>callFunc 155 #[dJ (fU (u (i+j)) (fO (wd a i) (wd b j)) 0),dJ c,rP 0]) (fun _=>(qy87 (fU (u (i+j)) (fO (wd a i) (wd b j)) 0) c)) (fun _=>kr) (fun _=>kr) (fun _ w=>(add64 (fU (u (i+j)) (fO (wd a i) (wd b j)) 0) c 0 (pJ _ _ _) hM.car sW) w))<|jX 5) (lV f119 12 [2,3,4,5,6,7,8,15,18] [] (let qa:=IQ.wrap ((xQ (wd a i) (wd b j))+(gZ (u (i+j)) (fO (wd a i) (wd b j)) 0));let qb:=fU (u (i+j)) (fO (wd a i) (wd b j)) 0;let qc:JR:=.int .u64 (IQ.wrap (qa+(gZ qb c 0)));[vn i,vn j,vn (i+j),dJ (fU qb c 0),dJ (xQ (wd a i) (wd b j)),dJ (gZ (u (i+j)) (fO (wd a i) (wd b j)) 0),dJ qa,dJ (gZ qb c 0),qc,sF r2 0 i j,JQ,qc]) [(10,(jD 4 r2 0 (c8 (Be u (i+j) (fU (fU (u (i+j)) (fO (wd a i) (wd b j)) 0) c 0))) 178))] (jY 2<|oD (iW i j om)<|jY 6<|pI (II 178 (bG r2 0) (vn (i+j))) (sF r2 0 i j) (bK (n:=((i+j:Nat):Int)) (i:=i+j) underlying178 sizeOf52 (⟨rfl,by omega⟩))<|CW 4 52 (nb r2 0) (i+j) (c8 u) (c8 (Be u (i+j) (fU (fU (u (i+j)) (fO (wd a i) (wd b j)) 0) c 0))) 178 (dJ (fU (fU (u (i+j)) (fO (wd a i) (wd b j)) 0) c 0)) sizeOf52 (show _<8 from om) (c8_set u (i+j) (fU (fU (u (i+j)) (fO (wd a i) (wd b j)) 0) c 0) om)<|jX 1) (aH (aA (lV f119 2 [2,3,4,5,6,7,8,15,18] [] [vn (j+1),vn (j+1)] [] (oD (iW j 1 om)<|jX 1) (?_))))))))))))
   exact mN (j+1,Be u (i+j) (fU (fU (u (i+j)) (fO (wd a i) (wd b j)) 0) c 0),IQ.wrap ((IQ.wrap ((xQ (wd a i) (wd b j))+(gZ (u (i+j)) (fO (wd a i) (wd b j)) 0)))+(gZ (fU (u (i+j)) (fO (wd a i) (wd b j)) 0) c 0))) (by show 4-(j+1)<4-j;omega) (⟨by omega,mulI_next om om hM (pJ _ _ _) (rmul_step (dA a i) (dA b j) (hM.word _) hM.car).2 (rmul_step (dA a i) (dA b j) (hM.word _) hM.car).1⟩) []
  rw [h2]
  refine bC (aF (aF (aO (aA (lV f119 5 [2,3,4,5,6,15] [] [vn i,vn (i+4),dJ c,sF r2 0 i 4,JQ] [(4,(jD 4 r2 0 (c8 (Be u (i+4) c)) 178))] (jY 1<|oD (iW i 4 om)<|jY 1<|pI (II 178 (bG r2 0) (vn (i+4))) (sF r2 0 i 4) (bK (n:=((i+4:Nat):Int)) (i:=i+4) underlying178 sizeOf52 (⟨rfl,by omega⟩))<|CW 4 52 (nb r2 0) (i+4) (c8 u) (c8 (Be u (i+4) c)) 178 (dJ c) sizeOf52 (show _<8 from om) (c8_set u (i+4) c om)<|cN) (aH (aA (lV f119 2 [2,3,4,5,6,15] [] [vn (i+1),vn (i+1)] [] (oD (iW i 1 om)<|jX 1) (?_)))))))))
  exact mN (i+1,Be u (i+4) c) (by show 4-(i+1)<4-i;omega) (⟨by omega,mulI_end om (by have:j=4:=(oA (yF h2));subst this;exact hM)⟩) []
 rw [h1]
 refine bC (aF (aF (aO (aA (Au f119 [0,0,3] 3 [4,5,6] [0,0,1,1,1] [lY r1 3 4,vs (nb r2 0) 4 8,vi 4] [(2,(mQ 3 (nb r1 3) (cL #[dJ (f 0),dJ (f 1),dJ (f 2),dJ (f 3)] 54)))] (jY 2<|cX (o_run _ [3,4] [1,1,1,1,0,0,0,0] (fun _ _=>[nb r2 0,nb r2 0,nb r2 0,nb r2 0,nb r1 3,nb r1 3,nb r1 3,nb r1 3]) (fun _ _=>by kernel_rfl))<|cN) (Au f119 [0,0,3] 3 [4,5] [1,1,0] [lY r1 2 4,.slice (rF r2 0 4) 4 4,vi 4] [(2,(mQ 0 (nb r1 2) (cL #[dJ (f 4),dJ (f 5),dJ (f 6),dJ (f 7)] 54)))] (jY 2<|cX (o_run _ [0,2] [1,1,1,1,0,0,0,0] (fun _ _=>[nb r2 0,nb r2 0,nb r2 0,nb r2 0,nb r1 2,nb r1 2,nb r1 2,nb r1 2]) (fun _ _=>by kernel_rfl))<|cN) (aY f119 4 [4,5] [] [.agg #[dJ (f 4),dJ (f 5),dJ (f 6),dJ (f 7)],.agg #[dJ (f 0),dJ (f 1),dJ (f 2),dJ (f 3)],JQ,JQ] [(2,(mQ 0 (nb r1 2) (cL #[dJ (f 4),dJ (f 5),dJ (f 6),dJ (f 7)] 54))),(3,(mQ 1 (nb r1 3) (cL #[dJ (f 0),dJ (f 1),dJ (f 2),dJ (f 3)] 54)))] (jE [[0],[1],[0],[1]]) (aG ?_))))))))
 exact mR (v:=(.tuple #[.agg #[dJ (f 4),dJ (f 5),dJ (f 6),dJ (f 7)],.agg #[dJ (f 0),dJ (f 1),dJ (f 2),dJ (f 3)]])) (ps:=[0,0,0,0,1,1,1,1]) (fun _ hS=>⟨mul_end ha h (by have:i=4:=(oA (yF h1));subst this;exact hO),hS.dM⟩)
theorem rmul_any (a b:Nat) (w0:JS) (ha:a<M) (h:b<M):Calls prog 119 #[U a,U b] w0 (jR (qy227 a b) w0):=rmul_w a b ha h w0
abbrev qy131:=fun p0=>(.tuple #[U (p0 / M),U (p0%M)]:JR)
abbrev qy193:=fun p0 p1 p2 p3=>[(0,(fB p0 0 (cU p1) 54)),(1,(fB p0 1 (cU p2) 54)),(2,(fB p0 2 (cU p3) 54)),(3,(fB p0 3 (cU 0) 54))]
theorem mulmod_w (a:Nat) (b:Nat) (m:Nat) (ha:a<M) (h:b<M) (hm:m<M) (w0:JS):Calls prog 178 #[U a,U b,U m] w0 (jR (U (kS a b m)) w0):=by
 refine Calls.cW 33 (fun _=>True) func178 rfl rfl rfl jT (sS f178 4 [3,4,5,6] [] (fun r=>[bG r 0,bG r 1,bG r 2,bG r 3]) (fun r=>(qy193 r a b m)) (jX 4) (fun r1=>aC (aY f178 3 [3,4,5,6,14] [] [U m,U 0,.bool (decide (m=0))] [] (cR [[2],[]]<|cB (a:=fun r=>(U m)) (b:=fun r=>(U 0)) (v:=fun r=>(.bool (decide (m=0)))) .eql 54 (fun _ _=>eqlU m 0 hm dK _)<|cN) (oC (decide (m=0)) (fun h1=>?_) (fun h1=>?_)))))
 ·rw [h1]
  refine aY f178 2 [3,4,5,6] [] [U 0,JQ] [(1,(mF 3 r1 (cU 0) 54))] (jE [[],[3]]) (aG (aB ?_))
  exact mR (v:=(U 0)) (ps:=[3,3,3,3]) (fun _ hS=>⟨congrArg (fun x=>IJ (U x)) (mulm_0 h1),hS.dM⟩)
 rw [h1]
 refine aI (aA (sS f178 10 [5,6,7,8] [0,0,1,1,1,1] (fun r=>[U a,U b,qy131 (a*b),qy131 (a*b),U ((a*b) / M),U ((a*b)%M),bG r 6,bG r 7,JQ,JQ]) (fun r=>[(6,(fB r 6 (cU 0) 54)),(7,(fB r 7 (cU 0) 54)),(8,(jD 52 r 6 (cU ((a*b) / M)) 54)),(9,(jD 60 r 7 (cU ((a*b)%M)) 54))]) (cR [[0],[1]]<|cC (fun _ w=>mul_any a b w ha h)<|jE [[],[],[],[],[],[52],[60]]) (fun _=>sD f178 [0,0,3,0,0,31,63,127,127,127,0,0,3327,7679,16383] 15 [6,10] [0,1,0,0,0,1] (fun r=>let qa:JR:=.bool (decide ((fQ ((a*b) / M) m)<m));let qb:=U (wY (fQ ((a*b) / M) m) ((a*b)%M) m);let qc:=U (rZ (fQ ((a*b) / M) m) ((a*b)%M) m);[U ((a*b) / M),U m,U (fQ ((a*b) / M) m),U ((a*b)%M),U m,.tuple #[qb,qc,qa],.tuple #[qb,qc,qa],qb,qc,qa,bG r 10,bG r 11,JQ,JQ,qa]) (fun r=>[(10,(fB r 10 (cU 0) 54)),(11,(fB r 11 (cU 0) 54)),(12,(jD 84 r 10 (cU (wY (fQ ((a*b) / M) m) ((a*b)%M) m)) 54)),(13,(jD 92 r 11 (cU (rZ (fQ ((a*b) / M) m) ((a*b)%M) m)) 54))]) (cR [[2],[0]]<|cC (fun _ w=>reduce_any ((a*b) / M) m w (HY ha h) hm)<|cR [[3],[0]]<|cC (f:=180) (args:=fun r=> #[U (fQ ((a*b) / M) m),U ((a*b)%M),U m]) (v:=fun r=>(.tuple #[U (wY (fQ ((a*b) / M) m) ((a*b)%M) m),U (rZ (fQ ((a*b) / M) m) ((a*b)%M) m),.bool (decide ((fQ ((a*b) / M) m)<m))])) (fun _ w=>(fun w=>div_any (fQ ((a*b) / M) m) ((a*b)%M) m w (Iq (HY ha h)) (Du _) hm) w)<|jE [[],[],[],[],[],[],[84],[92],[]]) (fun _=>aY f178 2 [6] [1,0] [U (rZ (fQ ((a*b) / M) m) ((a*b)%M) m),JQ] [(1,(jD 0 r1 3 (cU (rZ (fQ ((a*b) / M) m) ((a*b)%M) m)) 54))] (jE [[1],[0]]) (aG ?_)))))
 exact mR (v:=(U (rZ (fQ ((a*b) / M) m) ((a*b)%M) m))) (fun _ hS=>⟨congrArg (fun x=>IJ (U x)) (mulm_1 h1),hS.dM⟩)
theorem mulmod_any (a b m:Nat) (w0:JS) (ha:a<M) (h:b<M) (hm:m<M):Calls prog 178 #[U a,U b,U m] w0 (jR (U (kS a b m)) w0):=mulmod_w a b m ha h hm w0
theorem rmulmod_w (a:Nat) (b:Nat) (m:Nat) (ha:a<M) (h:b<M) (hm:m<M) (w0:JS):Calls prog 177 #[U a,U b,U m] w0 (jR (U (kS a b m)) w0):=by
 refine Calls.cW 34 (fun _=>True) func177 rfl rfl rfl jT (sS f177 4 [3,4,5,6] [] (fun r=>[bG r 0,bG r 1,bG r 2,bG r 3]) (fun r=>(qy193 r a b m)) (jX 4) (fun r1=>aC (aY f177 2 [3,4,5,6,13] [] [U m,.bool (decide (m=0))] [] (cR [[2]]<|cC (fun _ w=>o9 m w hm)<|cN) (oC (decide (m=0)) (fun h1=>?_) (fun h1=>?_)))))
 ·rw [h1]
  refine aY f177 2 [3,4,5,6] [] [U m,JQ] [(1,(mF 3 r1 (cU m) 54))] (jE [[2],[3]]) (aG (aB ?_))
  exact mR (v:=(U m)) (ps:=[3,3,3,3]) (fun _ hS=>⟨congrArg (fun x=>IJ (U x)) (mulm_0' h1),hS.dM⟩)
 rw [h1]
 refine aI (aA (sD f177 [0,0,3,0,0,31,63,127,255,255,0,0,3583,8191] 14 [5,6,7,8] [0,0,1,1,1,1] (fun r=>[U a,U m,U (fQ a m),U b,U m,U (fQ b m),qy131 ((fQ a m)*(fQ b m)),qy131 ((fQ a m)*(fQ b m)),U (((fQ a m)*(fQ b m)) / M),U (((fQ a m)*(fQ b m))%M),bG r 10,bG r 11,JQ,JQ]) (fun r=>[(10,(fB r 10 (cU 0) 54)),(11,(fB r 11 (cU 0) 54)),(12,(jD 84 r 10 (cU (((fQ a m)*(fQ b m)) / M)) 54)),(13,(jD 92 r 11 (cU (((fQ a m)*(fQ b m))%M)) 54))]) (cR [[0],[2]]<|cC (fun _ w=>Ez a m w ha hm)<|cR [[1],[2]]<|cC (fun _ w=>Ez b m w h hm)<|cC (fun _ w=>rmul_any (fQ a m) (fQ b m) w (Iq ha) (Iq h))<|jE [[],[],[],[],[],[84],[92]]) (fun _=>sS f177 13 [6,10] [0,1,0,0,0,1] (fun r=>let qa:JR:=.bool (decide ((((fQ a m)*(fQ b m)) / M)<m));let qb:=U (wY (((fQ a m)*(fQ b m)) / M) (((fQ a m)*(fQ b m))%M) m);let qc:=U (rZ (((fQ a m)*(fQ b m)) / M) (((fQ a m)*(fQ b m))%M) m);[U (((fQ a m)*(fQ b m)) / M),U (((fQ a m)*(fQ b m))%M),U m,.tuple #[qb,qc,qa],.tuple #[qb,qc,qa],qb,qc,qa,bG r 8,bG r 9,JQ,JQ,qa]) (fun r=>[(8,(fB r 8 (cU 0) 54)),(9,(fB r 9 (cU 0) 54)),(10,(jD 68 r 8 (cU (wY (((fQ a m)*(fQ b m)) / M) (((fQ a m)*(fQ b m))%M) m)) 54)),(11,(jD 76 r 9 (cU (rZ (((fQ a m)*(fQ b m)) / M) (((fQ a m)*(fQ b m))%M) m)) 54))]) (cR [[2],[3],[0]]<|cC (f:=105) (args:=fun r=> #[U (((fQ a m)*(fQ b m)) / M),U (((fQ a m)*(fQ b m))%M),U m]) (v:=fun r=>(.tuple #[U (wY (((fQ a m)*(fQ b m)) / M) (((fQ a m)*(fQ b m))%M) m),U (rZ (((fQ a m)*(fQ b m)) / M) (((fQ a m)*(fQ b m))%M) m),.bool (decide ((((fQ a m)*(fQ b m)) / M)<m))])) (fun _ w=>(fun w=>rdiv_any (((fQ a m)*(fQ b m)) / M) (((fQ a m)*(fQ b m))%M) m w (HY (Iq ha) (Iq h)) (Du _) hm) w)<|jE [[],[],[],[],[],[],[68],[76],[]]) (fun _=>aY f177 2 [6] [1,0] [U (rZ (((fQ a m)*(fQ b m)) / M) (((fQ a m)*(fQ b m))%M) m),JQ] [(1,(jD 0 r1 3 (cU (rZ (((fQ a m)*(fQ b m)) / M) (((fQ a m)*(fQ b m))%M) m)) 54))] (jE [[1],[0]]) (aG ?_)))))
 exact mR (v:=(U (rZ (((fQ a m)*(fQ b m)) / M) (((fQ a m)*(fQ b m))%M) m))) (fun _ hS=>⟨congrArg (fun x=>IJ (U x)) (mulm_2 hm h1),hS.dM⟩)
theorem rmulmod_any (a b m:Nat) (w0:JS) (ha:a<M) (h:b<M) (hm:m<M):Calls prog 177 #[U a,U b,U m] w0 (jR (U (kS a b m)) w0):=rmulmod_w a b m ha h hm w0
abbrev qy103:=fun p0 p1=>[(0,(fB p0 0 (cU p1) 54)),(1,(fB p0 1 (cU 0) 54))]
theorem rshr_neg (a:Nat) (n:Int) (hn:n<=0) (w0:JS):Calls prog 173 #[U a,vi n] w0 (jR (U a) w0):=by
 refine Calls.cW 34 (fun _=>True) func173 rfl rfl rfl jT ?_
 have hk0:decide (n<=0)=true:=decide_eq_true hn
 refine sS f173 2 [1,2,4] [] (fun r=>[bG r 0,bG r 1]) (fun r=>(qy103 r a)) (jX 2) (fun r1=>aC (aY f173 2 [1,2,4,8] [] [vi n,vT] [] (jY 1<|eU vT (jP hk0)<|cN) (oY (aY f173 2 [1,2,4] [] [U a,JQ] [(1,(mF 1 r1 (cU a) 54))] (jE [[0],[1]]) (aG (aB ?_))))))
 exact mR (v:=(U a)) (ps:=[1,1,1,1]) (fun _ hS=>⟨rfl,hS.dM⟩)
theorem rshr_big (a:Nat) (n:Int) (hn:256<=n) (w0:JS):Calls prog 173 #[U a,vi n] w0 (jR (U 0) w0):=by
 refine Calls.cW 34 (fun _=>True) func173 rfl rfl rfl jT ?_
 have hk0:decide (n<=0)=false:=decide_eq_false om
 have hk1:decide (256<=n)=true:=decide_eq_true hn
 refine sS f173 2 [1,2,4] [] (fun r=>[bG r 0,bG r 1]) (fun r=>(qy103 r a)) (jX 2) (fun r1=>aC (aY f173 2 [1,2,4,8] [] [vi n,vF] [] (jY 1<|eU vF (jP hk0)<|cN) (oN (aI (aA (aC (aY f173 2 [1,2,4,11] [] [vi n,vT] [] (jY 1<|eU vT (jP hk1)<|cN) (oY (aY f173 2 [1,2,4] [] [U 0,JQ] [(1,(mF 1 r1 (cU 0) 54))] (jE [[],[1]]) (aG (aB ?_)))))))))))
 exact mR (v:=(U 0)) (ps:=[1,1,1,1]) (fun _ hS=>⟨rfl,hS.dM⟩)
abbrev wR:=fun p0=>(.int .i64 p0:JR)
theorem run_shl1 {P:JU} {t:JV} (k:Nat) (h:k<64) (w:JS):(binOp .shl t (rP 1) (wR (k:Int))).run P w=.ok (dJ (2^k)) w:=by
 rw [run_shl]
 unfold shlW
 rw [Nat.min_eq_left om,Int.one_mul,F7 k h]
theorem rshr_mid (a:Nat) (m:Nat) (ha:a<M) (_h0:0<m) (_hm:m<256) (w0:JS):Calls prog 173 #[U a,vn m] w0 (jR (U (a / 2^m)) w0):=by
 refine Calls.cW 34 (fun _=>True) func173 rfl rfl rfl jT ?_
 have hk0:decide ((m:Int)<=0)=false:=decide_eq_false om
 have hk1:decide (256<=(m:Int))=false:=decide_eq_false om
 refine sS f173 2 [1,2,4] [] (fun r=>[bG r 0,bG r 1]) (fun r=>(qy103 r a)) (jX 2) (fun r1=>aC (aY f173 2 [1,2,4,8] [] [vn m,vF] [] (jY 1<|eU vF (jP hk0)<|cN) (oN (aI (aA (aC (aY f173 2 [1,2,4,11] [] [vn m,vF] [] (jY 1<|eU vF (jP hk1)<|cN) (oN (aI (aA (sS f173 1 [1,2,4,5] [] (fun r=>[bG r 0]) (fun r=>(pO 0 r (cU 0) 54)) (jX 1) (fun r4=>aC (jJ f173 1 [1,2,4,5,6] [vi 0] (aJ ?_))))))))))))))
 refine oL (σ:=Nat × Nat) (fun ⟨i,_⟩=>[(1,(vn m)),(2,(bG r1 0)),(4,(bG r1 1)),(5,(bG r4 0)),(6,(vn i))]) (fun ⟨_,b⟩=>[(nb r1 0,(yY a)),(nb r1 1,(cL (cU 0) 54)),(nb r4 0,(yY b))]) (fun ⟨i,_⟩=>256-i)
  (fun ⟨i,b⟩=>(i+m<=256)/\(b=a / 2^m%2^i)) (0,0) (⟨by omega,by simp [Nat.mod_one]⟩) [] ?_
 rintro ⟨i,b⟩ ⟨hi,t⟩
 refine aC (aY f173 4 [1,2,4,5,6,16] [] [vn i,vn m,vn (i+m),.bool (decide (((i+m:Nat):Int)<256))] [] (jY 2<|oD (iW i m om)<|jX 1) (oC (decide (((i+m:Nat):Int)<256)) (fun t1=>?_) (fun t1=>?_)))
 ·rw [t1]
  have:=yT t1
  refine aI (aA (aC (aJ (aY f173 5 [1,2,4,5,6,23] [] [U a,vn i,vn m,vn (i+m),.bool (xO a (i+m))] [] (cR [[0],[],[]]<|oD (iW i m om)<|cC (fun _ w=>BG a (i+m) w om)<|cN) (oC (xO a (i+m)) (fun t2=>?_) (fun t2=>?_))))))
  ·rw [t2]
   refine rDc f173 [0,1,3,7,0,16,48,127,255,511] 10 [1,2,4,5,6] [] [vn i,vn (i / 64),jp (nb r4 0) (i / 64),dJ (wd b (i / 64)),vn i,vn (i%64),dJ ((2:Int)^(i%64)),dJ (bits .or .u64 (wd b (i / 64)) ((2:Int)^(i%64))),jp (nb r4 0) (i / 64),JQ] [(9,(jD 2 r4 0 (cU (b+2^(64*(i / 64)+i%64))) 54))] (jY 1<|cB (a:=fun r=>(vn i)) (b:=fun r=>(vi 64)) (v:=fun r=>(vn (i / 64))) .quo 3 (fun _ w=>run_quo_nat i 64 (i / 64) dC om rfl w)<|pI (II 54 (bG r4 0) (vn (i / 64))) (jp (nb r4 0) (i / 64)) (bK (n:=((i / 64:Nat):Int)) (i:=i / 64) underlying54 sizeOf52 (⟨rfl,by omega⟩))<|uP 2 52 (nb r4 0) (i / 64) (cU b) 54 (dJ (wd b (i / 64))) isAgg52 (vK b (i / 64) om)<|jY 1<|cB (a:=fun r=>(vn i)) (b:=fun r=>(vi 64)) (v:=fun r=>(vn (i%64))) .rem 3 (fun _ w=>run_rem_nat i 64 (i%64) dC rfl w)<|cB (a:=fun r=>(rP 1)) (b:=fun r=>(vn (i%64))) (v:=fun r=>(dJ ((2:Int)^(i%64)))) .shl 52 (fun _ w=>run_shl1 (i%64) om w)<|jY 1<|pI (II 54 (bG r4 0) (vn (i / 64))) (jp (nb r4 0) (i / 64)) (bK (n:=((i / 64:Nat):Int)) (i:=i / 64) underlying54 sizeOf52 (⟨rfl,by omega⟩))<|CW 2 52 (nb r4 0) (i / 64) (cU b) (cU (b+2^(64*(i / 64)+i%64))) 54 (dJ (bits .or .u64 (wd b (i / 64)) ((2:Int)^(i%64)))) sizeOf52 (show _<4 from by omega) (setlow_row b (i / 64) (i%64) om om (by rw [t,show 64*(i / 64)+i%64=i by omega];exact Nat.mod_lt _ (Nat.pow_pos dC)))<|cN) (aH (aA (lV f173 3 [1,2,4,5,6] [] [vn i,vn (i+1),vn (i+1)] [] (jY 1<|oD (iW i 1 om)<|jX 1) (?_))))
   exact mN (i+1,b+2^(64*(i / 64)+i%64)) (by show 256-(i+1)<256-i;omega) (⟨by omega,by rw [low_next,t];have h2:=t2;unfold xO at h2;rw [shr_bit] at h2;rw [if_pos (yT h2),show 64*(i / 64)+i%64=i by omega]⟩) []
  rw [t2]
  refine aI (aH (aA (lV f173 3 [1,2,4,5,6] [] [vn i,vn (i+1),vn (i+1)] [] (jY 1<|oD (iW i 1 om)<|jX 1) (?_))))
  exact mN (i+1,b) (by show 256-(i+1)<256-i;omega) (⟨by omega,by rw [low_next,t];have h2:=t2;unfold xO at h2;rw [shr_bit] at h2;rw [if_neg (yF h2),Nat.add_zero]⟩) []
 rw [t1]
 refine bC (aF (aF (aO (aA (aY f173 2 [4] [0,1,0] [U b,JQ] [(1,(mF 1 r1 (cU b) 54))] (jE [[2],[1]]) (aG ?_))))))
 exact mR (v:=(U b)) (fun _ hS=>⟨congrArg (fun x=>IJ (U x)) (by rw [t];exact shr_all ha (oA (yF t1))),hS.dM⟩)
theorem rshr_any (a:Nat) (n:Int) (w0:JS) (ha:a<M):Calls prog 173 #[U a,wR n] w0 (jR (U (shrZ a n)) w0):=by
 unfold shrZ
 by_cases h0:n<0
 ·rw [if_pos h0];exact rshr_neg a n om w0
 ·rw [if_neg h0]
  by_cases h1:256<=n
  ·rw [shrN_big ha om];exact rshr_big a n h1 w0
  ·obtain ⟨k, rfl⟩ := Jg (by omega : 0 <= n)
   rw [Int.toNat_natCast]
   by_cases hk:k=0
   ·subst hk;rw [Nat.pow_zero,Nat.div_one];exact rshr_neg a _ om w0
   ·exact rshr_mid a k ha om om w0
theorem rexpmod_w (a:Nat) (e:Nat) (m:Nat) (ha:a<M) (he:e<M) (hm:m<M) (w0:JS):Calls prog 172 #[U a,U e,U m] w0 (jR (U (kV a e m)) w0):=by
 refine Calls.cW 34 (fun _=>True) func172 rfl rfl rfl jT (sS f172 4 [3,4,5,6] [] (fun r=>[bG r 0,bG r 1,bG r 2,bG r 3]) (fun r=>(qy193 r a e m)) (jX 4) (fun r1=>aC (aY f172 2 [3,4,5,6,10] [] [U m,.bool (decide (m=0))] [] (cR [[2]]<|cC (fun _ w=>o9 m w hm)<|cN) (oC (decide (m=0)) (fun b1=>?_) (fun b1=>?_)))))
 ·rw [b1]
  refine aY f172 2 [3,4,5,6] [] [U m,JQ] [(1,(mF 3 r1 (cU m) 54))] (jE [[2],[3]]) (aG (aB ?_))
  exact mR (v:=(U m)) (ps:=[3,3,3,3]) (fun _ hS=>⟨congrArg (fun x=>IJ (U x)) (expm_0' b1),hS.dM⟩)
 rw [b1]
 refine aI (aA (sD f172 [0,0,3,0,15] 5 [3,4,5,6,7] [] (fun r=>[U 1,U m,U (fQ 1 m),bG r 3,JQ]) (fun r=>[(3,(fB r 3 (cU 0) 54)),(4,(jD 28 r 3 (cU (fQ 1 m)) 54))]) (cC (fun _ w=>lZ 1 w dC)<|cR [[2]]<|cC (fun _ w=>Ez 1 m w dK hm)<|jE [[],[28]]) (fun r4=>aC (aY f172 4 [3,4,5,6,7,8] [] (let qa:=vi (((fJ e:Nat):Int)-1);[U e,vn (fJ e),qa,qa]) [] (cR [[1]]<|cC (fun _ w=>rlen_any e w he)<|jUc (((fJ e:Nat):Int)-1) (((fJ e:Nat):Int)-1) (wrap_pred (oA (qG e he)))<|jX 1) (aJ ?_)))))
 refine oL (σ:=Nat × Nat) (fun ⟨k,_⟩=>[(3,(bG r1 0)),(4,(bG r1 1)),(5,(bG r1 2)),(6,(bG r1 3)),(7,(bG r4 3)),(8,(pV k 1))]) (fun ⟨_,p⟩=>[(nb r1 0,(yY a)),(nb r1 1,(yY e)),(nb r1 2,(yY m)),(nb r1 3,(cL (cU 0) 54)),(nb r4 3,(yY p))]) (fun ⟨k,_⟩=>k)
  (fun ⟨k,p⟩=>(k<=256)/\(p=a^(e / 2^k)%m)) (fJ e,fQ 1 m) (⟨qG e he,exp_start b1⟩) [] ?_
 rintro ⟨k,p⟩ ⟨hk,hp⟩
 have hpM:p<M:=exp_lt hm b1 hp
 refine aC (jJ f172 2 [3,4,5,6,7,8,19] [pV k 1,.bool (decide (0<=((k:Int)-1)))] (oC (decide (0<=((k:Int)-1))) (fun b2=>?_) (fun b2=>?_)))
 ·rw [b2]
  refine aI (aA (aC (aJ (aY f172 5 [3,4,5,6,7,8] [] [U p,U p,U m,U (kS p p m),JQ] [(4,(jD 4 r4 3 (cU (kS p p m)) 54))] (cR [[4],[4],[2]]<|cC (fun _ w=>rmulmod_any p p m w hpM hpM hm)<|jE [[4]]) (aY f172 3 [3,4,5,6,7,8,28] [] [U e,pV k 1,.bool (xO e (k-1))] [] (cR [[1],[]]<|cC (f:=121) (args:=fun r=> #[U e,pV k 1]) (v:=fun r=>(.bool (xO e (k-1)))) (fun _ w=>(fun w=>rbit_at e (k-1) _ (by have h1:=yT b2;omega) w (by have h1:=yT b2;omega)) w)<|cN) (oC (xO e (k-1)) (fun b3=>?_) (fun b3=>?_)))))))
  ·rw [b3]
   refine lV f172 5 [3,4,5,6,7,8] [] [U (kS p p m),U a,U m,U (kS (kS p p m) a m),JQ] [(4,(jD 4 r4 3 (cU (kS (kS p p m) a m)) 54))] (cR [[4],[0],[2]]<|cC (f:=177) (args:=fun r=> #[U (kS p p m),U a,U m]) (v:=fun r=>(U (kS (kS p p m) a m))) (fun _ w=>(fun w=>rmulmod_any (kS p p m) a m w (mulmN_lt _ _ hm) ha hm) w)<|jE [[4]]) (aH (aA (lV f172 3 [3,4,5,6,7,8] [] (let qa:=vi (((k-1:Nat):Int)-1);[pV k 1,qa,qa]) [] (jY 1<|jUc (((k:Int)-1)-1) (((k-1:Nat):Int)-1) (wrap_down (by have h1:=yT b2;omega) om)<|jX 1) (?_))))
   exact mN (k-1,kS (kS p p m) a m) (by show k-1<k;have h1:=yT b2;omega) (⟨by omega,by rw [exp_step1 hp (Ai (a:=0) b1).2.1,half_odd (by have h1:=yT b2;omega) b3]⟩) []
  rw [b3]
  refine aI (aH (aA (lV f172 3 [3,4,5,6,7,8] [] (let qa:=vi (((k-1:Nat):Int)-1);[pV k 1,qa,qa]) [] (jY 1<|jUc (((k:Int)-1)-1) (((k-1:Nat):Int)-1) (wrap_down (by have h1:=yT b2;omega) om)<|jX 1) (?_))))
  exact mN (k-1,kS p p m) (by show k-1<k;have h1:=yT b2;omega) (⟨by omega,by rw [exp_step hp (Ai (a:=0) b1).2.1,half_even (by have h1:=yT b2;omega) b3]⟩) []
 rw [b2]
 refine bC (aF (aF (aO (aA (aY f172 2 [6] [0,0,0,1,0] [U p,JQ] [(1,(mF 3 r1 (cU p) 54))] (jE [[4],[3]]) (aG ?_))))))
 exact mR (v:=(U p)) (fun _ hS=>⟨congrArg (fun x=>IJ (U x)) (exp_end (k:=k) b1 (by have h1:=yF b2;omega) hp),hS.dM⟩)
theorem rexpmod_any (a e m:Nat) (w0:JS) (ha:a<M) (he:e<M) (hm:m<M):Calls prog 172 #[U a,U e,U m] w0 (jR (U (kV a e m)) w0):=rexpmod_w a e m ha he hm w0
theorem Bg {A k:Nat} {C:Array JR} {v:Int} (hC:C.size=32) (hk:k<32) (hj:∀ j,j<k->C[j]? = some (.int .u8 (DD A j))) (hv:v=DD A k) :
 (C.setIfInBounds k (.int .u8 v)).size=32/\∀ j,j<k+1->(C.setIfInBounds k (.int .u8 v))[j]? = some (.int .u8 (DD A j)):=by
 refine ⟨by simpa using hC,fun j h=>?_⟩
 by_cases e:j=k
 ·subst e;rw [hv];simp [hC,hk]
 ·rw [Array.getElem?_setIfInBounds_ne (fun x=>e x.symm)];exact hj j om
theorem yC {C:Array JR} (h:C.size=32):(prog.info? 47).map (·.size)=some C.size:=by rw [h];kernel_rfl
set_option maxHeartbeats 1000000 in
set_option maxRecDepth 100000 in
theorem bytes_any (A : Nat) (w : JS) :
 Calls prog 101 #[U A] w fun e w'=>e=.returned (.agg (hB A))/\Below w.heap.size w w':=by
 go_enter func101,Tryz.ntmps101
 go_wp2
 obtain ⟨Z,hZ⟩:∃ Z:Array JR,Z= #[.int .u8 0,.int .u8 0,.int .u8 0,.int .u8 0,.int .u8 0,.int .u8 0,.int .u8 0,.int .u8 0,.int .u8 0,.int .u8 0,.int .u8 0,.int .u8 0,.int .u8 0,.int .u8 0,.int .u8 0,.int .u8 0,.int .u8 0,.int .u8 0,.int .u8 0,.int .u8 0,.int .u8 0,.int .u8 0,.int .u8 0,.int .u8 0,.int .u8 0,.int .u8 0,.int .u8 0,.int .u8 0,.int .u8 0,.int .u8 0,.int .u8 0,.int .u8 0]:=⟨_,rfl⟩
 rw [<- hZ]
 have hz:Z.size=32:=by rw [hZ];rfl
 clear hZ
 go_loopw [5] (fun i wr=>∃ (k:Nat) (C:Array JR),k<=32/\i=.int .i64 k/\C.size=32/\(∀ j,j<k->C[j]? = some (.int .u8 (DD A j)))/\wr=((w.alloc (.cells #[.int .u64 (wd A 0),.int .u64 (wd A 1),.int .u64 (wd A 2),.int .u64 (wd A 3)] 54)).alloc (.cells Z 47)).alloc (.cells C 47)) (fun i _=>32-(intOf i).toNat)
 case atStart=>exact ⟨0,Z,by omega,rfl,hz,fun j hj=>by omega,rfl⟩
 case round =>
  obtain ⟨k,C,hk,rfl,hC,hj,rfl⟩:=hrel
  have HC:=JB hC;have HJ:=JB hj;have HZ:=JB hz
  clear hC hj hz
  by_cases hlt:k<32
  ·have hC2 : k < C.size := by have := HC.out; omega
   rcases (by omega:(k:Int) / 8=0\/(k:Int) / 8=1\/(k:Int) / 8=2\/(k:Int) / 8=3) with h8 | h8 | h8 | h8
   all_goals
    go_wp2
    go_roundw
    case rel =>
     first | (obtain ⟨g1,g2⟩:=Bg HC.out hlt HJ.out (byt_wd A 3 k hlt om);exact ⟨k+1,_,by omega,by go_num,g1,g2,rfl⟩) | (obtain ⟨g1,g2⟩:=Bg HC.out hlt HJ.out (byt_wd A 2 k hlt om);exact ⟨k+1,_,by omega,by go_num,g1,g2,rfl⟩) | (obtain ⟨g1,g2⟩:=Bg HC.out hlt HJ.out (byt_wd A 1 k hlt om);exact ⟨k+1,_,by omega,by go_num,g1,g2,rfl⟩) | (obtain ⟨g1,g2⟩:=Bg HC.out hlt HJ.out (byt_wd A 0 k hlt om);exact ⟨k+1,_,by omega,by go_num,g1,g2,rfl⟩)
    case measure=>simp [intOf];omega
  ·go_wp2_with (first | (refine wl_load (w.heap.size + 1 + 1) 47 C _ rfl (hp_3_2 _ _ _ _) underlying47 rfl (yC HC.out) ?_) | (refine wl_store (w.heap.size + 1) 47 Z C rfl rfl (hp_3_1 _ _ _ _) (yC HC.out) (HZ.out.trans HC.out.symm) (by rw [hB_ext HC.out (fun j h => HJ.out j om)]; exact hB_one A) ?_))
   rw [sr_3_1]
   refine bodyPost_ret (results_cell_row rfl _ _ (w.heap.size+1) 47 C (0,0) _ rfl (hp_3_1 _ _ _ _) underlying47 rfl (yC HC.out)) rfl ?_
   refine ⟨by rw [hB_ext HC.out (fun j h=>HJ.out j om)],?_⟩
   (exact bt)
theorem run_index_hash (A k:Nat) (hk:k<32) (w:JS):(Instr.index 47 (.agg (hB A)) (.int .i64 k)).run prog w=.ok (.int .u8 (DD A k)) w:=by
 have h:=hB_get A k hk
 have h0:(0:Int)<=(k:Int)/\(k:Int)<32:=by omega
 simp [Instr.index,go_sem,part,h,h0,hk]
set_option maxHeartbeats 1000000 in
set_option maxRecDepth 100000 in
theorem frombytes_any (A : Nat) (w : JS) :
 Calls prog 145 #[.agg (hB A)] w fun e w'=>e=.returned (U A)/\Below w.heap.size w w':=by
 go_enter func145,Tryz.ntmps145
 go_wp2_with (refine wl_load (w.heap.size) 47 (hB A) _ rfl (hp_3_0 _ _ _ _) underlying47 rfl (yC (vY A)) ?_)
 go_loopw [8] (fun i wr=>∃ (k:Nat),k<=32/\i=.int .i64 k/\wr=((w.alloc (.cells (hB A) 47)).alloc (.cells #[.int .u64 0,.int .u64 0,.int .u64 0,.int .u64 0] 54)).alloc (.cells #[.int .u64 (pre A 0 k),.int .u64 (pre A 1 k),.int .u64 (pre A 2 k),.int .u64 (pre A 3 k)] 54)) (fun i _=>32-(intOf i).toNat)
 case atStart=>exact ⟨0,by omega,rfl,by rw [Ff A 0 0 om,Ff A 1 0 om,Ff A 2 0 om,Ff A 3 0 om]⟩
 case round =>
  obtain ⟨k,hk,rfl,rfl⟩:=hrel
  by_cases hlt:k<32
  ·have hidx := run_index_hash A k hlt
   rcases (by omega:(k:Int) / 8=0\/(k:Int) / 8=1\/(k:Int) / 8=2\/(k:Int) / 8=3) with h8 | h8 | h8 | h8
   all_goals
    go_wp2
    go_roundw
    case rel =>
     refine ⟨k+1,by omega,by go_num,?_⟩
     first
      | rw [G7 A 3 k hlt om,qO A 0 k om om,qO A 1 k om om,qO A 2 k om om]
      | rw [G7 A 2 k hlt om,qO A 0 k om om,qO A 1 k om om,qO A 3 k om om]
      | rw [G7 A 1 k hlt om,qO A 0 k om om,qO A 2 k om om,qO A 3 k om om]
      | rw [G7 A 0 k hlt om,qO A 1 k om om,qO A 2 k om om,qO A 3 k om om]
    case measure=>simp [intOf];omega
  ·obtain rfl : k = 32 := by omega
   rw [pre_end A 0 om,pre_end A 1 om,pre_end A 2 om,pre_end A 3 om]
   go_wp2
   go_returns
   refine ⟨rfl,?_⟩
   (exact bt)
theorem setCell_drewN (w:JS) (n:Nat) (a:Addr) (v:JR):(w.drewN n).setCell a v=(w.setCell a v).drewN n:=rfl
set_option maxHeartbeats 1000000 in
set_option maxRecDepth 100000 in
theorem rfrombytes_any (A : Nat) (w : JS) :
 Calls prog 118 #[.agg (hB A)] w fun e w'=>e=.returned (U A)/\Below w.heap.size w w':=by
 go_enter func118,Tryz.ntmps118
 go_wp2
 go_loopw [6] (fun i wr=>∃ (k n:Nat),k<=32/\i=.int .i64 k/\wr=(((w.alloc (.cells (hB A) 47)).alloc (.cells #[.int .u64 0,.int .u64 0,.int .u64 0,.int .u64 0] 54)).alloc (.cells #[.int .u64 (top A 0 k),.int .u64 (top A 1 k),.int .u64 (top A 2 k),.int .u64 (top A 3 k)] 54)).drewN n) (fun i _=>32-(intOf i).toNat)
 case atStart=>exact ⟨0,0,by omega,rfl,by rw [World.drewN_zero,Fe A 0 0 om,Fe A 1 0 om,Fe A 2 0 om,Fe A 3 0 om]⟩
 case round =>
  obtain ⟨k,n,hk,rfl,rfl⟩:=hrel
  by_cases hlt:k<32
  ·have hcell := hB_get A k hlt
   rcases (by omega:(31-(k:Int)) / 8=0\/(31-(k:Int)) / 8=1\/(31-(k:Int)) / 8=2\/(31-(k:Int)) / 8=3) with h8 | h8 | h8 | h8
   all_goals
    go_wp2
    go_region
    go_wp2
    go_roundw
    case rel =>
     refine ⟨k+1,n+1,by omega,by go_num,?_⟩
     have e8:8*((31-k)%8)=56-k%8*8:=by omega
     rw [e8,Iy (Az A k) (by have:=byt_lt A k;omega),top_byte_in A k,setCell_drewN,World.setCell_alloc_at _ _ _ _ _ (by simp)]
     first
      | (rw [Hg A 3 k hlt om,qQ A 0 k om om,qQ A 1 k om om,qQ A 2 k om om];rfl)
      | (rw [Hg A 2 k hlt om,qQ A 0 k om om,qQ A 1 k om om,qQ A 3 k om om];rfl)
      | (rw [Hg A 1 k hlt om,qQ A 0 k om om,qQ A 2 k om om,qQ A 3 k om om];rfl)
      | (rw [Hg A 0 k hlt om,qQ A 1 k om om,qQ A 2 k om om,qQ A 3 k om om];rfl)
    case measure=>simp [intOf];omega
  ·obtain rfl : k = 32 := by omega
   rw [top_end A 0 om,top_end A 1 om,top_end A 2 om,top_end A 3 om]
   go_wp2
   go_returns
   refine ⟨rfl,?_⟩
   (exact bt)
set_option maxHeartbeats 1000000 in
set_option maxRecDepth 100000 in
theorem rbytes_any (A : Nat) (w : JS) :
 Calls prog 139 #[U A] w fun e w'=>e=.returned (.agg (hB A))/\Below w.heap.size w w':=by
 go_enter func139,Tryz.ntmps139
 go_wp2
 obtain ⟨Z,hZ⟩:∃ Z:Array JR,Z= #[.int .u8 0,.int .u8 0,.int .u8 0,.int .u8 0,.int .u8 0,.int .u8 0,.int .u8 0,.int .u8 0,.int .u8 0,.int .u8 0,.int .u8 0,.int .u8 0,.int .u8 0,.int .u8 0,.int .u8 0,.int .u8 0,.int .u8 0,.int .u8 0,.int .u8 0,.int .u8 0,.int .u8 0,.int .u8 0,.int .u8 0,.int .u8 0,.int .u8 0,.int .u8 0,.int .u8 0,.int .u8 0,.int .u8 0,.int .u8 0,.int .u8 0,.int .u8 0]:=⟨_,rfl⟩
 rw [<- hZ]
 have hz:Z.size=32:=by rw [hZ];rfl
 clear hZ
 go_loopw [6] (fun i wr=>∃ (k:Nat) (C:Array JR),k<=32/\i=.int .i64 k/\C.size=32/\(∀ j,j<k->C[j]? = some (.int .u8 (DD A j)))/\wr=((w.alloc (.cells #[.int .u64 (wd A 0),.int .u64 (wd A 1),.int .u64 (wd A 2),.int .u64 (wd A 3)] 54)).alloc (.cells Z 47)).alloc (.cells C 47)) (fun i _=>32-(intOf i).toNat)
 case atStart=>exact ⟨0,Z,by omega,rfl,hz,fun j hj=>by omega,rfl⟩
 case round =>
  obtain ⟨k,C,hk,rfl,hC,hj,rfl⟩:=hrel
  have HC:=JB hC;have HJ:=JB hj;have HZ:=JB hz
  clear hC hj hz
  by_cases hlt:k<32
  ·have hC2 : k < C.size := by have := HC.out; omega
   rcases (by omega:(31-(k:Int)) / 8=0\/(31-(k:Int)) / 8=1\/(31-(k:Int)) / 8=2\/(31-(k:Int)) / 8=3) with h8 | h8 | h8 | h8
   all_goals
    go_wp2
    go_roundw
    case rel =>
     first | (obtain ⟨g1,g2⟩:=Bg HC.out hlt HJ.out (byt_wd' A 3 k hlt om);exact ⟨k+1,_,by omega,by go_num,g1,g2,rfl⟩) | (obtain ⟨g1,g2⟩:=Bg HC.out hlt HJ.out (byt_wd' A 2 k hlt om);exact ⟨k+1,_,by omega,by go_num,g1,g2,rfl⟩) | (obtain ⟨g1,g2⟩:=Bg HC.out hlt HJ.out (byt_wd' A 1 k hlt om);exact ⟨k+1,_,by omega,by go_num,g1,g2,rfl⟩) | (obtain ⟨g1,g2⟩:=Bg HC.out hlt HJ.out (byt_wd' A 0 k hlt om);exact ⟨k+1,_,by omega,by go_num,g1,g2,rfl⟩)
    case measure=>simp [intOf];omega
  ·go_wp2_with (first | (refine wl_load (w.heap.size + 1 + 1) 47 C _ rfl (hp_3_2 _ _ _ _) underlying47 rfl (yC HC.out) ?_) | (refine wl_store (w.heap.size + 1) 47 Z C rfl rfl (hp_3_1 _ _ _ _) (yC HC.out) (HZ.out.trans HC.out.symm) (by rw [hB_ext HC.out (fun j h => HJ.out j om)]; exact hB_one A) ?_))
   rw [sr_3_1]
   refine bodyPost_ret (results_cell_row rfl _ _ (w.heap.size+1) 47 C (0,0) _ rfl (hp_3_1 _ _ _ _) underlying47 rfl (yC HC.out)) rfl ?_
   refine ⟨by rw [hB_ext HC.out (fun j h=>HJ.out j om)],?_⟩
   (exact bt)
theorem gmodulus_w  (w0:JS):Calls prog 161 #[] w0 (jR (U pP) w0):=by
 refine Calls.cW 2 (fun _=>True) func161 rfl rfl rfl jT (sS f161 1 [0] [] (fun r=>[bG r 0]) (fun r=>(pO 0 r (cU 0) 54)) (jX 1) (fun r1=>aY f161 2 [0] [] [U 115792089237316195423570985008687907853269984665640564039457584007913129603823,JQ] [(1,(mF 0 r1 (cU 115792089237316195423570985008687907853269984665640564039457584007913129603823) 54))] (jE [[],[0]]) (aG ?_)))
 exact mR (v:=(U 115792089237316195423570985008687907853269984665640564039457584007913129603823)) (fun _ hS=>⟨congrArg (fun x=>IJ (U x)) dK,hS.dM⟩)
theorem IG (w0:JS)  : Calls prog 161 #[] w0 (jR (U pP) w0):=gmodulus_w  w0
theorem gorder_w  (w0:JS):Calls prog 163 #[] w0 (jR (U qP) w0):=by
 refine Calls.cW 2 (fun _=>True) func163 rfl rfl rfl jT (sS f163 1 [0] [] (fun r=>[bG r 0]) (fun r=>(pO 0 r (cU 0) 54)) (jX 1) (fun r1=>aY f163 2 [0] [] [U 57896044618658097711785492504343953926634992332820282019728792003956564801911,JQ] [(1,(mF 0 r1 (cU 57896044618658097711785492504343953926634992332820282019728792003956564801911) 54))] (jE [[],[0]]) (aG ?_)))
 exact mR (v:=(U 57896044618658097711785492504343953926634992332820282019728792003956564801911)) (fun _ hS=>⟨congrArg (fun x=>IJ (U x)) dK,hS.dM⟩)
theorem gorder_any (w0:JS)  : Calls prog 163 #[] w0 (jR (U qP) w0):=gorder_w  w0
theorem rgmodulus_w  (w0:JS):Calls prog 156 #[] w0 (jR (U pP) w0):=by
 refine Calls.cW 10 (fun _=>True) func156 rfl rfl rfl jT (sS f156 1 [0] [] (fun r=>[bG r 0]) (fun r=>(pO 0 r (cU 0) 54)) (jX 1) (fun r1=>sS f156 9 [0,1] [] (fun r=>let qa:JR:=.bool (decide (0<36113));[U 0,U 36113,.tuple #[U ((0+M-36113)%M),qa],.tuple #[U ((0+M-36113)%M),qa],U ((0+M-36113)%M),qa,bG r 6,JQ,qa]) (fun r=>[(6,(fB r 6 (cU 0) 54)),(7,(jD 49 r 6 (cU ((0+M-36113)%M)) 54))]) (jY 1<|cC (fun _ w=>lZ 36113 w dC)<|cC (fun _ w=>rsub_any 0 36113 w dK dK)<|jE [[],[],[],[],[49],[]]) (fun _=>aY f156 2 [0] [1,0] [U ((0+M-36113)%M),JQ] [(1,(mF 0 r1 (cU ((0+M-36113)%M)) 54))] (jE [[1],[0]]) (aG ?_))))
 exact mR (v:=(U ((0+M-36113)%M))) (fun _ hS=>⟨congrArg (fun x=>IJ (U x)) dK,hS.dM⟩)
theorem yK (w0:JS)  : Calls prog 156 #[] w0 (jR (U pP) w0):=rgmodulus_w  w0
theorem rgorder_w  (w0:JS):Calls prog 158 #[] w0 (jR (U qP) w0):=by
 refine Calls.cW 3 (fun _=>True) func158 rfl rfl rfl jT (sS f158 1 [0] [] (fun r=>[bG r 0]) (fun r=>(pO 0 r (cU 0) 54)) (jX 1) (fun r1=>aY f158 3 [0] [] [U pP,U (shrZ pP 1),JQ] [(2,(mF 0 r1 (cU (shrZ pP 1)) 54))] (oO yK<|cC (fun _ w=>rshr_any pP 1 w Ea)<|jE [[0]]) (aG ?_)))
 exact mR (v:=(U (shrZ pP 1))) (fun _ hS=>⟨congrArg (fun x=>IJ (U x)) dK,hS.dM⟩)
theorem rgorder_any (w0:JS)  : Calls prog 158 #[] w0 (jR (U qP) w0):=rgorder_w  w0
theorem rgone_w  (w0:JS):Calls prog 159 #[] w0 (jR (U 1) w0):=by
 refine Calls.cW 2 (fun _=>True) func159 rfl rfl rfl jT (sS f159 1 [0] [] (fun r=>[bG r 0]) (fun r=>(pO 0 r (cU 0) 54)) (jX 1) (fun r1=>aY f159 2 [0] [] [U 1,JQ] [(1,(mF 0 r1 (cU 1) 54))] (cC (fun _ w=>lZ 1 w dC)<|jE [[0]]) (aG ?_)))
 exact mR (v:=(U 1)) (fun _ hS=>⟨rfl,hS.dM⟩)
theorem rgone_any (w0:JS)  : Calls prog 159 #[] w0 (jR (U 1) w0):=rgone_w  w0
theorem gmul_w (a:Nat) (b:Nat) (ha:a<M) (h:b<M) (w0:JS):Calls prog 175 #[U a,U b] w0 (jR (U (kS a b pP)) w0):=by
 refine Calls.cW 9 (fun _=>True) func175 rfl rfl rfl jT (sS f175 3 [2,3,4] [] (fun r=>[bG r 0,bG r 1,bG r 2]) (fun r=>(qy126 r a b)) (jX 3) (fun r1=>Au f175 [0,0,0,7,15] 5 [4] [0,0,1] [U a,U b,U pP,U (kS a b pP),JQ] [(4,(mF 2 r1 (cU (kS a b pP)) 54))] (cR [[0],[1]]<|oO IG<|cC (fun _ w=>mulmod_any a b pP w ha h Ea)<|jE [[2]]) (aG ?_)))
 exact mR (v:=(U (kS a b pP))) (fun _ hS=>⟨rfl,hS.dM⟩)
theorem gmul_any (a b:Nat) (w0:JS) (ha:a<M) (h:b<M):Calls prog 175 #[U a,U b] w0 (jR (U (kS a b pP)) w0):=gmul_w a b ha h w0
theorem gexp_w (a:Nat) (e:Nat) (ha:a<M) (he:e<M) (w0:JS):Calls prog 162 #[U a,U e] w0 (jR (U (kV a e pP)) w0):=by
 refine Calls.cW 37 (fun _=>True) func162 rfl rfl rfl jT (sS f162 3 [2,3,4] [] (fun r=>[bG r 0,bG r 1,bG r 2]) (fun r=>(qy126 r a e)) (jX 3) (fun r1=>sS f162 3 [2,3,4,5] [] (fun r=>[U 1,bG r 1,JQ]) (fun r=>[(1,(fB r 1 (cU 0) 54)),(2,(jD 11 r 1 (cU 1) 54))]) (cC (fun _ w=>xG 1 w dC)<|jE [[],[11]]) (fun r2=>aY f162 3 [2,3,4,5,6] [] [U e,vn (fJ e),vn (fJ e)] [] (cR [[1]]<|cC (fun _ w=>len_any e w he)<|jX 1) (aC (jJ f162 2 [2,3,4,5,6,12,13] [vn (fJ e),vi 0] (aJ ?_))))))
 refine oL (σ:=Nat × Nat) (fun ⟨i,_⟩=>[(2,(bG r1 0)),(3,(bG r1 1)),(4,(bG r1 2)),(5,(bG r2 1)),(6,(vn (fJ e))),(12,(vn (fJ e))),(13,(vn i))]) (fun ⟨_,p⟩=>[(nb r1 0,(yY a)),(nb r1 1,(yY e)),(nb r1 2,(cL (cU 0) 54)),(nb r2 1,(yY p))]) (fun ⟨i,_⟩=>fJ e-i)
  (fun ⟨i,p⟩=>(i<=fJ e)/\(p=a^(e / 2^(fJ e-i))%pP)) (0,1) (⟨I4 _,exp_one a e⟩) [] ?_
 rintro ⟨i,p⟩ ⟨hi,hp⟩
 have hpM:p<M:=gexp_lt hp
 refine jJ f162 1 [2,3,4,5,6,12,13,14] [.bool (decide ((i:Int)<((fJ e:Nat):Int)))] (aC (oC (decide ((i:Int)<((fJ e:Nat):Int))) (fun t1=>?_) (fun t1=>?_)))
 ·rw [t1]
  refine aI (aA (aC (aJ (jJ f162 2 [2,3,4,5,6,7,12,13] [vn i,vn i] (aY f162 5 [2,3,4,5,6,8,12,13] [] [vn (fJ e),vn (fJ e-1),vn i,vn (fJ e-1-i),vn (fJ e-1-i)] [] (jY 1<|DV (((fJ e:Nat):Int)-1) (fJ e-1) (Ih (fJ e) 1 (by have h1:=yT t1;have h2:=qG e he;omega) (by have h1:=yT t1;have h2:=qG e he;omega))<|jY 1<|DV (((fJ e-1:Nat):Int)-(i:Int)) (fJ e-1-i) (Ih (fJ e-1) i (by have h1:=yT t1;have h2:=qG e he;omega) (by have h1:=yT t1;have h2:=qG e he;omega))<|jX 1) (aY f162 4 [2,3,4,5,6,8,12,13] [] [U p,U p,U (kS p p pP),JQ] [(3,(jD 3 r2 1 (cU (kS p p pP)) 54))] (cR [[3],[3]]<|cC (fun _ w=>gmul_any p p w hpM hpM)<|jE [[3]]) (aY f162 9 [2,3,4,5,6,12,13,31] [] (let qa:=shrW (wd e ((fJ e-1-i) / 64)) ((fJ e-1-i)%64);[vn (fJ e-1-i),vn ((fJ e-1-i) / 64),jp (nb r1 1) ((fJ e-1-i) / 64),dJ (wd e ((fJ e-1-i) / 64)),vn (fJ e-1-i),vn ((fJ e-1-i)%64),dJ qa,dJ (bits .and .u64 qa 1),.bool (xO e (fJ e-1-i))]) [] (jY 1<|cB (a:=fun r=>(vn (fJ e-1-i))) (b:=fun r=>(vi 64)) (v:=fun r=>(vn ((fJ e-1-i) / 64))) .quo 3 (fun _ w=>run_quo_nat (fJ e-1-i) 64 ((fJ e-1-i) / 64) dC (by have h1:=yT t1;have h2:=qG e he;omega) rfl w)<|pI (II 54 (bG r1 1) (vn ((fJ e-1-i) / 64))) (jp (nb r1 1) ((fJ e-1-i) / 64)) (bK (n:=(((fJ e-1-i) / 64:Nat):Int)) (i:=(fJ e-1-i) / 64) underlying54 sizeOf52 (⟨rfl,(by have h1:=yT t1;have h2:=qG e he;omega)⟩))<|uP 1 52 (nb r1 1) ((fJ e-1-i) / 64) (cU e) 54 (dJ (wd e ((fJ e-1-i) / 64))) isAgg52 (vK e ((fJ e-1-i) / 64) (by have h1:=yT t1;have h2:=qG e he;omega))<|jY 1<|cB (a:=fun r=>(vn (fJ e-1-i))) (b:=fun r=>(vi 64)) (v:=fun r=>(vn ((fJ e-1-i)%64))) .rem 3 (fun _ w=>run_rem_nat (fJ e-1-i) 64 ((fJ e-1-i)%64) dC rfl w)<|cB (a:=fun r=>(dJ (wd e ((fJ e-1-i) / 64)))) (b:=fun r=>(vn ((fJ e-1-i)%64))) (v:=fun r=>(dJ (shrW (wd e ((fJ e-1-i) / 64)) ((fJ e-1-i)%64)))) .shr 52 (fun _ w=>run_shr (wd e ((fJ e-1-i) / 64)) ((fJ e-1-i)%64) w)<|jY 1<|eU (.bool (xO e (fJ e-1-i))) (jP (expbit e (fJ e-1-i)))<|cN) (oC (xO e (fJ e-1-i)) (fun t2=>?_) (fun t2=>?_)))))))))
  ·rw [t2]
   refine lV f162 4 [2,3,4,5,6,12,13] [] [U (kS p p pP),U a,U (kS (kS p p pP) a pP),JQ] [(3,(jD 3 r2 1 (cU (kS (kS p p pP) a pP)) 54))] (cR [[3],[0]]<|cC (f:=175) (args:=fun r=> #[U (kS p p pP),U a]) (v:=fun r=>(U (kS (kS p p pP) a pP))) (fun _ w=>(fun w=>gmul_any (kS p p pP) a w (mulmN_lt _ _ Ea) ha) w)<|jE [[3]]) (aH (aA (lV f162 2 [2,3,4,5,6,12,13] [] [vn (i+1),vn (i+1)] [] (oD (iW i 1 (by have h1:=yT t1;have h2:=qG e he;omega))<|jX 1) (?_))))
   exact mN (i+1,kS (kS p p pP) a pP) (by show fJ e-(i+1)<fJ e-i;have h1:=yT t1;have h2:=qG e he;omega) (⟨by have h1:=yT t1;have h2:=qG e he;omega,by rw [exp_step1 hp (Nat.lt_trans Nat.zero_lt_one pP_pos),show fJ e-(i+1)=(fJ e-i)-1 by omega,<- half_odd (by have h1:=yT t1;have h2:=qG e he;omega) (by rw [show fJ e-i-1=fJ e-1-i by omega];exact t2)]⟩) []
  rw [t2]
  refine aI (aH (aA (lV f162 2 [2,3,4,5,6,12,13] [] [vn (i+1),vn (i+1)] [] (oD (iW i 1 (by have h1:=yT t1;have h2:=qG e he;omega))<|jX 1) (?_))))
  exact mN (i+1,kS p p pP) (by show fJ e-(i+1)<fJ e-i;have h1:=yT t1;have h2:=qG e he;omega) (⟨by have h1:=yT t1;have h2:=qG e he;omega,by rw [exp_step hp (Nat.lt_trans Nat.zero_lt_one pP_pos),show fJ e-(i+1)=(fJ e-i)-1 by omega,<- half_even (by have h1:=yT t1;have h2:=qG e he;omega) (by rw [show fJ e-i-1=fJ e-1-i by omega];exact t2)]⟩) []
 rw [t1]
 refine bC (aF (aF (aO (aA (aY f162 2 [4] [0,0,1,0] [U p,JQ] [(1,(mF 2 r1 (cU p) 54))] (jE [[3],[2]]) (aG ?_))))))
 exact mR (v:=(U p)) (fun _ hS=>⟨congrArg (fun x=>IJ (U x)) (gexp_end (i:=i) (by have h1:=yF t1;omega) hp),hS.dM⟩)
theorem gexp_any (a e:Nat) (w0:JS) (ha:a<M) (he:e<M):Calls prog 162 #[U a,U e] w0 (jR (U (kV a e pP)) w0):=gexp_w a e ha he w0
theorem rgexp_w (a:Nat) (e:Nat) (ha:a<M) (he:e<M) (w0:JS):Calls prog 157 #[U a,U e] w0 (jR (U (kV a e pP)) w0):=by
 refine Calls.cW 9 (fun _=>True) func157 rfl rfl rfl jT (sS f157 3 [2,3,4] [] (fun r=>[bG r 0,bG r 1,bG r 2]) (fun r=>(qy126 r a e)) (jX 3) (fun r1=>Au f157 [0,0,0,7,15] 5 [4] [0,0,1] [U a,U e,U pP,U (kV a e pP),JQ] [(4,(mF 2 r1 (cU (kV a e pP)) 54))] (cR [[0],[1]]<|oO yK<|cC (fun _ w=>rexpmod_any a e pP w ha he Ea)<|jE [[2]]) (aG ?_)))
 exact mR (v:=(U (kV a e pP))) (fun _ hS=>⟨rfl,hS.dM⟩)
theorem rgexp_any (a e:Nat) (w0:JS) (ha:a<M) (he:e<M):Calls prog 157 #[U a,U e] w0 (jR (U (kV a e pP)) w0):=rgexp_w a e ha he w0
theorem gmember_w (a:Nat) (ha:a<M) (w0:JS):Calls prog 127 #[U a] w0 (jR (.bool (Bc a)) w0):=by
 refine Calls.cW 17 (fun _=>True) func127 rfl rfl rfl jT (sS f127 2 [1,2] [] (fun r=>[bG r 0,vF]) (fun r=>(pO 0 r (cU a) 54)) (jX 2) (fun _=>aC ?_))
 rcases jO (decide (a=0)) with h1 | h1
 ·refine Au f127 [0,0,3,7,15,15,63,127,255] 9 [1,2,11] [] [U a,U 0,vT,vT,JQ,JQ,JQ,JQ,vT] [] (cR [[0],[]]<|cB (a:=fun r=>(U a)) (b:=fun r=>(U 0)) (v:=fun r=>vT) .eql 54 (fun _ _=>(eqlU a 0 ha dK _).trans (by rw [h1];try rfl))<|jX 6) (oY (jJ f127 1 [1,2] [vF] (aG (aB ?_))))
  exact mR (v:=vF) (fun _ hS=>⟨jB (mem_no1 h1),hS.dM⟩)
 refine Au f127 [0,0,3,7,15,15,63,127,255] 9 [1,2,11] [] (let qa:JR:=.bool (decide (0<=(pF a pP)));[U a,U 0,vF,vF,U a,U pP,vi (pF a pP),qa,qa]) [] (cR [[0],[]]<|cB (a:=fun r=>(U a)) (b:=fun r=>(U 0)) (v:=fun r=>vF) .eql 54 (fun _ _=>(eqlU a 0 ha dK _).trans (by rw [h1];try rfl))<|cR [[],[0]]<|oO IG<|cC (fun _ w=>E8 a pP w ha Ea)<|jX 2) (oC (decide (0<=(pF a pP))) (fun h2=>?_) (fun h2=>?_))
 ·rw [h2]
  refine jJ f127 1 [1,2] [vF] (aG (aB ?_))
  exact mR (v:=vF) (fun _ hS=>⟨jB (mem_no2 h2),hS.dM⟩)
 rw [h2]
 refine aI (aA (Au f127 [0,0,3,7,15,31] 6 [2] [0] (let qa:JR:=.bool (decide (kV a qP pP=1));[U a,U qP,U (kV a qP pP),U 1,qa,qa]) [] (cR [[0]]<|oO gorder_any<|cC (fun _ w=>gexp_any a qP w ha qP_lt)<|cC (fun _ w=>xG 1 w dC)<|cB (a:=fun r=>(U (kV a qP pP))) (b:=fun r=>(U 1)) (v:=fun r=>(.bool (decide (kV a qP pP=1)))) .eql 54 (fun _ _=>eqlU (kV a qP pP) 1 (expmN_lt _ _ Ea) dK _)<|jX 1) (aG ?_)))
 exact mR (v:=(.bool (decide (kV a qP pP=1)))) (fun _ hS=>⟨jB (mem_yes h1 (oA (yF h2))),hS.dM⟩)
theorem gmember_any (a:Nat) (w0:JS) (ha:a<M):Calls prog 127 #[U a] w0 (jR (.bool (Bc a)) w0):=gmember_w a ha w0
theorem gpower_w (e:Nat) (he:e<M) (w0:JS):Calls prog 129 #[U e] w0 (jR (U (kV 4 e pP)) w0):=by
 refine Calls.cW 6 (fun _=>True) func129 rfl rfl rfl jT (sS f129 2 [1,2] [] (fun r=>[bG r 0,bG r 1]) (fun r=>(qy103 r e)) (jX 2) (fun r1=>Au f129 [0,0,3,7] 4 [2] [0,1] [U 4,U e,U (kV 4 e pP),JQ] [(3,(mF 1 r1 (cU (kV 4 e pP)) 54))] (cC (fun _ w=>xG 4 w dC)<|cR [[0]]<|cC (fun _ w=>gexp_any 4 e w dK he)<|jE [[1]]) (aG ?_)))
 exact mR (v:=(U (kV 4 e pP))) (fun _ hS=>⟨rfl,hS.dM⟩)
theorem gpower_any (e:Nat) (w0:JS) (he:e<M):Calls prog 129 #[U e] w0 (jR (U (kV 4 e pP)) w0):=gpower_w e he w0
abbrev qA:=[[],[],[0]]
theorem rgmember_w (a:Nat) (ha:a<M) (w0:JS):Calls prog 123 #[U a] w0 (jR (.bool (Bc a)) w0):=by
 refine Calls.cW 19 (fun _=>True) func123 rfl rfl rfl jT (sS f123 2 [1,2] [] (fun r=>[bG r 0,vF]) (fun r=>(pO 0 r (cU a) 54)) (jX 2) (fun _=>?_))
 rcases jO (decide (a=0)) with h1 | h1
 ·refine Au f123 [0,1,3,7,15,15,63,127,255,511,1023,1023,4095,8191,16383,32767,65535] 17 [2] [0] [U a,vT,vF,vF,JQ,JQ,JQ,JQ,vF,vF,JQ,JQ,JQ,JQ,JQ,vF,vF] [] (cR [[0]]<|cC (f:=64) (args:=fun r=> #[U a]) (v:=fun r=>vT) (fun _ w=>by as_aux_lemma=>(have hcall:=(fun w=>o9 a w ha) w;rw [h1] at hcall;exact hcall))<|jX 15) (aG ?_)
  exact mR (v:=vF) (fun _ hS=>⟨jB (mem_no1 h1),hS.dM⟩)
 rcases jO (decide ((pF a pP)<0)) with h2 | h2
 ·refine Au f123 [0,1,3,7,15,15,63,127,255,511,1023,1023,4095,8191,16383,32767,65535] 17 [2] [0] (let qa:JR:=.bool (decide (kV a qP pP=1));[U a,vF,vT,vT,U a,U pP,vi (pF a pP),vT,vT,vT,U a,U qP,U (kV a qP pP),U 1,qa,qa,qa]) [] (cR [[0]]<|cC (f:=64) (args:=fun r=> #[U a]) (v:=fun r=>vF) (fun _ w=>by as_aux_lemma=>(have hcall:=(fun w=>o9 a w ha) w;rw [h1] at hcall;exact hcall))<|cR qA<|oO yK<|cC (fun _ w=>BI a pP w ha Ea)<|eU vT (jP h2)<|cR qA<|oO rgorder_any<|cC (fun _ w=>rgexp_any a qP w ha qP_lt)<|oO rgone_any<|cB (a:=fun r=>(U (kV a qP pP))) (b:=fun r=>(U 1)) (v:=fun r=>(.bool (decide (kV a qP pP=1)))) .eql 54 (fun _ _=>eqlU (kV a qP pP) 1 (expmN_lt _ _ Ea) dK _)<|jX 2) (aG ?_)
  exact mR (v:=(.bool (decide (kV a qP pP=1)))) (fun _ hS=>⟨jB (mem_yes h1 (oA (yT h2))),hS.dM⟩)
 refine Au f123 [0,1,3,7,15,15,63,127,255,511,1023,1023,4095,8191,16383,32767,65535] 17 [2] [0] [U a,vF,vT,vT,U a,U pP,vi (pF a pP),vF,vF,vF,JQ,JQ,JQ,JQ,JQ,vF,vF] [] (cR [[0]]<|cC (f:=64) (args:=fun r=> #[U a]) (v:=fun r=>vF) (fun _ w=>by as_aux_lemma=>(have hcall:=(fun w=>o9 a w ha) w;rw [h1] at hcall;exact hcall))<|cR qA<|oO yK<|cC (fun _ w=>BI a pP w ha Ea)<|eU vF (jP h2)<|jX 9) (aG ?_)
 exact mR (v:=vF) (fun _ hS=>⟨jB (mem_no3 h2),hS.dM⟩)
theorem rgmember_any (a:Nat) (w0:JS) (ha:a<M):Calls prog 123 #[U a] w0 (jR (.bool (Bc a)) w0):=rgmember_w a ha w0
theorem rgpower_w (e:Nat) (he:e<M) (w0:JS):Calls prog 125 #[U e] w0 (jR (U (kV 4 e pP)) w0):=by
 refine Calls.cW 6 (fun _=>True) func125 rfl rfl rfl jT (sS f125 2 [1,2] [] (fun r=>[bG r 0,bG r 1]) (fun r=>(qy103 r e)) (jX 2) (fun r1=>Au f125 [0,0,3,7] 4 [2] [0,1] [U 4,U e,U (kV 4 e pP),JQ] [(3,(mF 1 r1 (cU (kV 4 e pP)) 54))] (cC (fun _ w=>lZ 4 w dC)<|cR [[0]]<|cC (fun _ w=>rgexp_any 4 e w dK he)<|jE [[1]]) (aG ?_)))
 exact mR (v:=(U (kV 4 e pP))) (fun _ hS=>⟨rfl,hS.dM⟩)
theorem rgpower_any (e:Nat) (w0:JS) (he:e<M):Calls prog 125 #[U e] w0 (jR (U (kV 4 e pP)) w0):=rgpower_w e he w0
theorem scalarb_any (a:Nat) (ha:a<M) (w0:JS):Calls prog 164 #[U a] w0 (jR (.bool (scB a)) w0):=by
 refine Calls.cW 7 (fun _=>True) func164 rfl rfl rfl jT (sS f164 2 [1,2] [] (fun r=>[bG r 0,vF]) (fun r=>(pO 0 r (cU a) 54)) (jX 2) (fun _=>Au f164 [0,0,3,7,15] 5 [2] [0] (let qa:JR:=.bool (decide ((pF a qP)<0));[U a,U qP,vi (pF a qP),qa,qa]) [] (cR [[0]]<|oO gorder_any<|cC (fun _ w=>E8 a qP w ha qP_lt)<|jX 2) (aG ?_)))
 exact mR (v:=(.bool (decide ((pF a qP)<0)))) (fun _ hS=>⟨jB (sc_dec a),hS.dM⟩)
theorem secret_any (x:Nat) (hx:x<M) (w0:JS):Calls prog 128 #[U x] w0 (jR (.bool (CZ x)) w0):=by
 refine Calls.cW 10 (fun _=>True) func128 rfl rfl rfl jT (sS f128 2 [1,2] [] (fun r=>[bG r 0,vF]) (fun r=>(pO 0 r (cU x) 54)) (jX 2) (fun _=>?_))
 rcases jO (decide (x=0)) with h1 | h1
 ·refine aY f128 8 [2] [0] [U x,U 0,vF,vF,JQ,JQ,vF,vF] [] (cR [[0],[]]<|cB (a:=fun r=>(U x)) (b:=fun r=>(U 0)) (v:=fun r=>vF) .neq 54 (fun _ _=>(neqU x 0 hx dK _).trans (by rw [h1];try rfl))<|jX 5) (aG ?_)
  exact mR (v:=vF) (fun _ hS=>⟨jB (sec_0 h1),hS.dM⟩)
 refine aY f128 8 [2] [0] [U x,U 0,vT,vT,U x,.bool (scB x),.bool (scB x),.bool (scB x)] [] (cR [[0],[]]<|cB (a:=fun r=>(U x)) (b:=fun r=>(U 0)) (v:=fun r=>vT) .neq 54 (fun _ _=>(neqU x 0 hx dK _).trans (by rw [h1];try rfl))<|cR [[],[0]]<|oO (scalarb_any x hx)<|jX 2) (aG ?_)
 exact mR (v:=(.bool (scB x))) (fun _ hS=>⟨jB (sec_1 h1),hS.dM⟩)
theorem rsecret_any (x:Nat) (hx:x<M) (w0:JS):Calls prog 124 #[U x] w0 (jR (.bool (CZ x)) w0):=by
 refine Calls.cW 12 (fun _=>True) func124 rfl rfl rfl jT (sS f124 2 [1,2] [] (fun r=>[bG r 0,vF]) (fun r=>(pO 0 r (cU x) 54)) (jX 2) (fun _=>?_))
 rcases jO (decide (x=0)) with b1 | b1
 ·refine Au f124 [0,1,3,7,15,15,63,127,255,511] 10 [2] [0] [U x,vT,vF,vF,JQ,JQ,JQ,JQ,vF,vF] [] (cR [[0]]<|cC (f:=64) (args:=fun r=> #[U x]) (v:=fun r=>vT) (fun _ w=>by as_aux_lemma=>(have hcall:=(fun w=>o9 x w hx) w;rw [b1] at hcall;exact hcall))<|jX 8) (aG ?_)
  exact mR (v:=vF) (fun _ hS=>⟨jB (sec_0 b1),hS.dM⟩)
 refine Au f124 [0,1,3,7,15,15,63,127,255,511] 10 [2] [0] (let qa:JR:=.bool (decide ((pF x qP)<0));[U x,vF,vT,vT,U x,U qP,vi (pF x qP),qa,qa,qa]) [] (cR [[0]]<|cC (f:=64) (args:=fun r=> #[U x]) (v:=fun r=>vF) (fun _ w=>by as_aux_lemma=>(have hcall:=(fun w=>o9 x w hx) w;rw [b1] at hcall;exact hcall))<|cR qA<|oO rgorder_any<|cC (fun _ w=>BI x qP w hx qP_lt)<|jX 3) (aG ?_)
 exact mR (v:=(.bool (decide ((pF x qP)<0)))) (fun _ hS=>⟨jB ((sc_dec x).trans (sec_1 b1)),hS.dM⟩)
abbrev D8:=fun p0 p1=>(.tuple #[U p0,vi p1]:JR)
theorem public_any (x:Nat) (hx:x<M) (w0:JS):Calls prog 92 #[U x] w0 (jR (D8 (oW x) (sQ x)) w0):=by
 refine Calls.cW 10 (fun _=>True) func92 rfl rfl rfl jT (sS f92 3 [1,2,3] [] (fun r=>[bG r 0,bG r 1,vi 0]) (fun r=>(qy103 r x)) (jX 3) (fun r1=>aC (aY f92 3 [1,2,3,6] [] [U x,.bool (CZ x),.bool (!(CZ x))] [] (cR [[0]]<|oO (secret_any x hx)<|jX 1) (oC (!(CZ x)) (fun b1=>?_) (fun b1=>?_)))))
 ·rw [b1]
  refine aY f92 3 [1,2,3] [] [U 0,JQ,vi 60] [(1,(mF 1 r1 (cU 0) 54))] (jE [[],[1],[]]) (aG (aB ?_))
  exact mR (v:=(D8 0 60)) (ps:=[1,1,1,1]) (fun _ hS=>⟨by rw [(Gu (kP b1)).1,(Gu (kP b1)).2],hS.dM⟩)
 rw [b1]
 refine aI (aA (aY f92 4 [2,3] [0,1] [U x,U (kV 4 x pP),JQ,vi 0] [(2,(mF 1 r1 (cU (kV 4 x pP)) 54))] (cR [[0]]<|cC (fun _ w=>gpower_any x w hx)<|jE [[1],[]]) (aG ?_)))
 exact mR (v:=(D8 (kV 4 x pP) 0)) (fun _ hS=>⟨by rw [(E5 (dI b1)).1,(E5 (dI b1)).2],hS.dM⟩)
theorem valid_any (p:Nat) (hp:p<M) (w0:JS):Calls prog 91 #[U p] w0 (jR (.bool (wH p)) w0):=by
 refine Calls.cW 10 (fun _=>True) func91 rfl rfl rfl jT (sS f91 2 [1,2] [] (fun r=>[bG r 0,vF]) (fun r=>(pO 0 r (cU p) 54)) (jX 2) (fun _=>?_))
 rcases jO (decide (p=1)) with h1 | h1
 ·refine Au f91 [0,0,3,7,15,31,63,127] 8 [2] [0] [U p,U 1,vF,vF,JQ,JQ,vF,vF] [] (cR [[0]]<|cC (fun _ w=>xG 1 w dC)<|cB (a:=fun r=>(U p)) (b:=fun r=>(U 1)) (v:=fun r=>vF) .neq 54 (fun _ _=>(neqU p 1 hp dK _).trans (by rw [h1];try rfl))<|jX 5) (aG ?_)
  exact mR (v:=vF) (fun _ hS=>⟨jB (val_0 h1),hS.dM⟩)
 refine Au f91 [0,0,3,7,15,31,63,127] 8 [2] [0] [U p,U 1,vT,vT,U p,.bool (Bc p),.bool (Bc p),.bool (Bc p)] [] (cR [[0]]<|cC (fun _ w=>xG 1 w dC)<|cB (a:=fun r=>(U p)) (b:=fun r=>(U 1)) (v:=fun r=>vT) .neq 54 (fun _ _=>(neqU p 1 hp dK _).trans (by rw [h1];try rfl))<|cR [[],[0]]<|cC (fun _ w=>gmember_any p w hp)<|jX 2) (aG ?_)
 exact mR (v:=(.bool (Bc p))) (fun _ hS=>⟨jB (val_1 h1),hS.dM⟩)
theorem Ey (x:Nat) (hx:x<M) (w0:JS):Calls prog 90 #[U x] w0 (jR (D8 (oW x) (sQ x)) w0):=by
 refine Calls.cW 10 (fun _=>True) func90 rfl rfl rfl jT (sS f90 3 [1,2,3] [] (fun r=>[bG r 0,bG r 1,vi 0]) (fun r=>(qy103 r x)) (jX 3) (fun r1=>aC (aY f90 3 [1,2,3,6] [] [U x,.bool (CZ x),.bool (!(CZ x))] [] (cR [[0]]<|oO (rsecret_any x hx)<|jX 1) (oC (!(CZ x)) (fun b1=>?_) (fun b1=>?_)))))
 ·rw [b1]
  refine aY f90 3 [1,2,3] [] [U 0,JQ,vi 60] [(1,(mF 1 r1 (cU 0) 54))] (jE [[],[1],[]]) (aG (aB ?_))
  exact mR (v:=(D8 0 60)) (ps:=[1,1,1,1]) (fun _ hS=>⟨by rw [(Gu (kP b1)).1,(Gu (kP b1)).2],hS.dM⟩)
 rw [b1]
 refine aI (aA (aY f90 4 [2,3] [0,1] [U x,U (kV 4 x pP),JQ,vi 0] [(2,(mF 1 r1 (cU (kV 4 x pP)) 54))] (cR [[0]]<|cC (fun _ w=>rgpower_any x w hx)<|jE [[1],[]]) (aG ?_)))
 exact mR (v:=(D8 (kV 4 x pP) 0)) (fun _ hS=>⟨by rw [(E5 (dI b1)).1,(E5 (dI b1)).2],hS.dM⟩)
theorem rvalid_any (p:Nat) (hp:p<M) (w0:JS):Calls prog 89 #[U p] w0 (jR (.bool (wH p)) w0):=by
 refine Calls.cW 10 (fun _=>True) func89 rfl rfl rfl jT (sS f89 2 [1,2] [] (fun r=>[bG r 0,vF]) (fun r=>(pO 0 r (cU p) 54)) (jX 2) (fun _=>?_))
 rcases jO (decide (p=1)) with h1 | h1
 ·refine Au f89 [0,0,3,7,15,31,63,127] 8 [2] [0] [U p,U 1,vF,vF,JQ,JQ,vF,vF] [] (cR [[0]]<|cC (fun _ w=>lZ 1 w dC)<|cB (a:=fun r=>(U p)) (b:=fun r=>(U 1)) (v:=fun r=>vF) .neq 54 (fun _ _=>(neqU p 1 hp dK _).trans (by rw [h1];try rfl))<|jX 5) (aG ?_)
  exact mR (v:=vF) (fun _ hS=>⟨jB (val_0 h1),hS.dM⟩)
 refine Au f89 [0,0,3,7,15,31,63,127] 8 [2] [0] [U p,U 1,vT,vT,U p,.bool (Bc p),.bool (Bc p),.bool (Bc p)] [] (cR [[0]]<|cC (fun _ w=>lZ 1 w dC)<|cB (a:=fun r=>(U p)) (b:=fun r=>(U 1)) (v:=fun r=>vT) .neq 54 (fun _ _=>(neqU p 1 hp dK _).trans (by rw [h1];try rfl))<|cR [[],[0]]<|cC (fun _ w=>rgmember_any p w hp)<|jX 2) (aG ?_)
 exact mR (v:=(.bool (Bc p))) (fun _ hS=>⟨jB (val_1 h1),hS.dM⟩)
section
def aggD:TypeDesc->Bool
 | .struct _=>true
 | .array _ _=>true
 | _=>false
def FV (P:JU) (t:JV) (cs:Array JR) (off:Nat):Option JR :=
 match P.info? t,P.underlying t with
 | some i,some d=>if aggD d then some (.agg (cs.extract off (off+i.size))) else cs[off]?
 | _,_=>none
def eqStep (f:JR->JR->Option (List (Int × Int))) (a b:Option JR):Option (List (Int × Int)) :=
 match a,b with
 | some a,some b=>f a b
 | _,_=>none
def eqF (P : JU) : Nat -> JV -> JR -> JR -> Option (List (Int × Int))
 | 0,_,_,_=>none
 | d + 1, t, x, y => match P.underlying t, x, y with
   | some (.int _),.int k a,.int k' b=>if k=k' then some [(a,b)] else none
   | some (.array n e),.agg xs,.agg ys=>if (P.info? e).isSome then ((List.range n).mapM fun i=>eqStep (eqF P d e) (FV P e xs (i*P.cellsOf e)) (FV P e ys (i*P.cellsOf e))).map List.flatten else none
   | some (.struct fs),.agg xs,.agg ys=>if P.stoodInHeld t then none else (fs.toList.mapM fun f=>if f.name≠ "_" then eqStep (eqF P d f.type) (FV P f.type xs f.offset) (FV P f.type ys f.offset) else none).map List.flatten
   | _,_,_=>none
def eqB (l:List (Int × Int)):Bool:=l.all fun p=>p.1==p.2
theorem eqB_app (a b:List (Int × Int)):eqB (a++b)=(eqB a&&eqB b):=by simp [eqB]
section
variable {P:JU}
theorem ET {t : JV} {cs : Array JR} {off : Nat} {v : JR} (h : FV P t cs off = some v) (w : JS) : (part t cs off).run P w = .ok v w := by
 unfold FV at h
 cases hi:P.info? t with
 | none=>rw [hi] at h;simp at h
 | some i =>
   cases hk:P.underlying t with
   | none=>rw [hi,hk] at h;simp at h
   | some d =>
     rw [hi,hk] at h
     simp only at h
     have hag:(isAgg t).run P w=.ok (aggD d) w:=by
      unfold isAgg
      rw [Jh,run_underlying hk w]
      cases d<;>simp [aggD]
     have hsz:(sizeOf t).run P w=.ok i.size w:=by simp [sizeOf,typeInfo,hi]
     unfold part
     rw [Jh,hag]
     simp only [Ji]
     split at h
     ·rename_i hb
      rw [hb]
      simp only [if_true,Jh,hsz,Ji,Sem.run_pure]
      rw [Je.inj h]
     ·rename_i hb
      simp only [hb,Bool.false_eq_true,if_false,h,Sem.run_pure]
theorem items_eq {d c:Nat} {e:JV} {xs ys:Array JR} (ih:∀ x y l w,eqF P d e x y=some l->(JI d e x y).run P w=.ok (eqB l) w):∀ (is:List Nat) (ls:List (List (Int × Int))) (w:JS),
 is.mapM (fun i=>eqStep (eqF P d e) (FV P e xs (i*c)) (FV P e ys (i*c)))=some ls->(Op.eqItems d e c xs ys is).run P w=.ok (eqB ls.flatten) w
 | [], ls, w, h => by
   simp at h
   subst h
   simp [Op.eqItems,eqB]
 | i :: is, ls, w, h => by
   rw [List.mapM_cons] at h
   simp only [bind,Ju,pure,Je.injEq] at h
   obtain ⟨l1,h1,ls',h2,rfl⟩:=h
   unfold eqStep at h1
   split at h1
   ·rename_i a b ha hb
    have h3:=items_eq (c:=c) (xs:=xs) (ys:=ys) ih is ls' w h2
    simp only [Op.eqItems,Jh,ET ha,ET hb,Ji,ih a b l1 w h1]
    cases hq:eqB l1
    ·simp [Jj,eqB_app,hq]
    ·simp [Jj,eqB_app,hq,h3]
   ·exact absurd h1 (by simp)
theorem fields_eq {d : Nat} {xs ys : Array JR} (ih : ∀ t x y l w, eqF P d t x y = some l -> (JI d t x y).run P w = .ok (eqB l) w) : ∀ (fs : List Field) (ls : List (List (Int × Int))) (w : JS),
 fs.mapM (fun f=>if f.name≠ "_" then eqStep (eqF P d f.type) (FV P f.type xs f.offset) (FV P f.type ys f.offset) else none)=some ls->(JM d xs ys fs).run P w=.ok (eqB ls.flatten) w
 | [], ls, w, h => by
   simp at h
   subst h
   simp [JM,eqB]
 | f :: fs, ls, w, h => by
   rw [List.mapM_cons] at h
   simp only [bind,Ju,pure,Je.injEq] at h
   obtain ⟨l1,h1,ls',h2,rfl⟩:=h
   split at h1
   ·rename_i hn
    unfold eqStep at h1
    split at h1
    ·rename_i a b ha hb
     have h3:=fields_eq (xs:=xs) (ys:=ys) ih fs ls' w h2
     simp only [JM,hn,ne_eq,not_false_eq_true,if_true,Jh,ET ha,ET hb,Ji,ih f.type a b l1 w h1]
     cases hq:eqB l1
     ·simp [Jj,eqB_app,hq]
     ·simp [Jj,eqB_app,hq,h3]
    ·exact absurd h1 (by simp)
   ·exact absurd h1 (by simp)
theorem run_eqF : ∀ (d : Nat) (t : JV) (x y : JR) (l : List (Int × Int)) (w : JS), eqF P d t x y = some l -> (JI d t x y).run P w = .ok (eqB l) w
 | 0,_,_,_,_,_,h=>by simp [eqF] at h
 | d + 1, t, x, y, l, w, h => by
   unfold eqF at h
   split at h
   ·rename_i hu
    split at h
    ·rename_i hk
     subst hk
     simp only [Je.injEq] at h
     subst h
     simp [JI,run_underlying hu,eqB]
    ·exact absurd h (by simp)
   ·rename_i n e xs ys hu
    split at h
    ·rename_i hi
     obtain ⟨i,hi⟩:=Option.isSome_iff_exists.1 hi
     rw [Jk] at h
     obtain ⟨ls,h1,rfl⟩:=h
     rw [run_equalIn_array w d xs ys hu hi]
     exact items_eq (fun x y l w=>run_eqF d e x y l w) _ ls w h1
    ·exact absurd h (by simp)
   ·rename_i fs xs ys hu
    split at h
    ·exact absurd h (by simp)
    ·rename_i hp
     rw [Jk] at h
     obtain ⟨ls,h1,rfl⟩:=h
     have hfs:P.fieldsOf t=fs:=by unfold Program.fieldsOf;rw [hu]
     rw [run_equalIn_struct w d t xs ys (by rw [hfs];exact hu) (by simpa using hp),hfs]
     exact fields_eq (fun t x y l w=>run_eqF d t x y l w) _ ls w h1
   ·exact absurd h (by simp)
def eqT (P:JU) (t:JV) (x y:JR):Option (List (Int × Int)):=eqF P 10000 t x y
theorem neq_any {t:JV} {x y:Array JR} {l:List (Int × Int)} (h:eqT P t (.agg x) (.agg y)=some l) (w:JS):(binOp .neq t (.agg x) (.agg y)).run P w=.ok (.bool (!eqB l)) w:=by
 have h1:=run_eqF 10000 t (.agg x) (.agg y) l w h
 simp only [binOp]
 simp [Op.equal,Op.maxDepth,h1]
theorem eqB_same:∀ {l:List (Int × Int)},l.map (·.1)=l.map (·.2)->eqB l=true
 | [],_=>rfl
 | p :: l, h => by
   simp only [List.map_cons,List.cons.injEq] at h
   have:=eqB_same h.2
   unfold eqB at this ⊢
   simp only [List.all_cons,this,Bool.and_true,beq_iff_eq]
   exact h.1
theorem same_get {t:JV} {x y:JR} (h:(eqT P t x y).map (fun l=>l.map (·.1))=some (((eqT P t x y).map fun l=>l.map (·.2)).getD [])):∃ l,eqT P t x y=some l/\eqB l=true:=by
 rw [Jk] at h
 obtain ⟨l,h1,h2⟩:=h
 rw [h1] at h2
 exact ⟨l,h1,eqB_same h2⟩
theorem neq_same {t:JV} {x y:Array JR} (w:JS) (h:(eqT P t (.agg x) (.agg y)).map (fun l=>l.map (·.1))=some (((eqT P t (.agg x) (.agg y)).map fun l=>l.map (·.2)).getD []):=by kernel_rfl):(binOp .neq t (.agg x) (.agg y)).run P w=.ok (.bool false) w:=by
 obtain ⟨l,h1,h2⟩:=same_get h
 rw [neq_any h1,h2];rfl
theorem neq_eq {t:JV} {x y:Array JR} (e:x=y) (w:JS) (h:(eqT P t (.agg x) (.agg x)).map (fun l=>l.map (·.1))=some (((eqT P t (.agg x) (.agg x)).map fun l=>l.map (·.2)).getD []):=by kernel_rfl):(binOp .neq t (.agg x) (.agg y)).run P w=.ok (.bool false) w:=by
 subst e;exact neq_same w h
end
end
abbrev qy65:=fun p0=>(.tuple #[U (oW p0),vi (sQ p0)]:JR)
abbrev x8:=[[],[],[],[0]]
theorem ksound_any (k:Ky) (hk:k.Ok) (w0:JS):Calls prog 67 #[bW (kY k)] w0 (jR (.bool (wB k)) w0):=by
 refine Calls.cW 37 (fun _=>True) func67 rfl rfl rfl jT (sS f67 2 [1,2] [] (fun r=>[bG r 0,vF]) (fun r=>(pO 0 r (kY k) 56)) (jX 2) (fun r1=>aC ?_))
 rcases jO (decide (k.d<0)) with h1 | h1
 ·refine aY f67 14 [1,2,18] [] [bH r1 0 40,vi k.d,vT,vT,JQ,JQ,JQ,vT,vT,JQ,JQ,JQ,JQ,vT] [] (cR [[],[0]]<|eU vT (jP h1)<|jX 11) (oY (jJ f67 1 [1,2] [vF] (aG (aB ?_))))
  exact mR (v:=vF) (fun _ hS=>⟨jB (snd_end1 h1),hS.dM⟩)
 rcases jO (decide (8<k.d)) with h2 | h2
 ·refine aY f67 14 [1,2,18] [] [bH r1 0 40,vi k.d,vF,vF,bH r1 0 40,vi k.d,vT,vT,vT,JQ,JQ,JQ,JQ,vT] [] (cR [[],[0]]<|eU vF (jP h1)<|cR qA<|eU vT (jP h2)<|jX 7) (oY (jJ f67 1 [1,2] [vF] (aG (aB ?_))))
  exact mR (v:=vF) (fun _ hS=>⟨jB (snd_end2 h1 h2),hS.dM⟩)
 refine aY f67 14 [1,2,18] [] [bH r1 0 40,vi k.d,vF,vF,bH r1 0 40,vi k.d,vF,vF,vF,bH r1 0 4,U k.p,.bool (wH k.p),.bool (!(wH k.p)),.bool (!(wH k.p))] [] (cR [[],[0]]<|eU vF (jP h1)<|cR qA<|eU vF (jP h2)<|cR x8<|oO (valid_any k.p hk.p)<|jX 2) (oC (!(wH k.p)) (fun h3=>?_) (fun h3=>?_))
 ·rw [h3]
  refine jJ f67 1 [1,2] [vF] (aG (aB ?_))
  exact mR (v:=vF) (fun _ hS=>⟨jB (snd_end3 h1 h2 (kP h3)),hS.dM⟩)
 rw [h3]
 refine aI (aA (aC (aY f67 4 [1,2,22] [] [bG r1 0,U k.s,U 0,.bool (decide (k.s=0))] [] (cR nS<|cB (a:=fun r=>(U k.s)) (b:=fun r=>(U 0)) (v:=fun r=>(.bool (decide (k.s=0)))) .eql 54 (fun _ _=>eqlU k.s 0 hk.s dK _)<|cN) (oC (decide (k.s=0)) (fun h4=>?_) (fun h4=>?_)))))
 ·rw [h4]
  refine jJ f67 1 [1,2] [vT] (aG (aB ?_))
  exact mR (v:=vT) (fun _ hS=>⟨jB (snd_ok4 h1 h2 (dI h3) h4),hS.dM⟩)
 rw [h4]
 refine aI (aA (sS f67 9 [1,2,3,4] [] (fun r=>[bG r1 0,U k.s,qy65 k.s,qy65 k.s,U (oW k.s),vi (sQ k.s),bG r 6,JQ,vi (sQ k.s)]) (fun r=>[(6,(fB r 6 (cU 0) 54)),(7,(jD 49 r 6 (cU (oW k.s)) 54))]) (cR [[],[0]]<|oO (public_any k.s hk.s)<|jE [[],[],[],[],[49],[]]) (fun _=>?_)))
 rcases jO ((sQ k.s)==0) with h5 | h5
 ·refine aY f67 9 [2] [0,0] (let qa:JR:=.bool (decide (oW k.s=k.p));[vi (sQ k.s),vT,vT,U (oW k.s),bH r1 0 4,U k.p,qa,qa,qa]) [] (jY 1<|eU vT (jP h5)<|cR [[],[1],[],[0]]<|cB (a:=fun r=>(U (oW k.s))) (b:=fun r=>(U k.p)) (v:=fun r=>(.bool (decide (oW k.s=k.p)))) .eql 54 (fun _ _=>eqlU (oW k.s) k.p (pubV_lt _) hk.p _)<|jX 2) (aG ?_)
  exact mR (v:=(.bool (decide (oW k.s=k.p)))) (fun _ hS=>⟨jB (snd_ok5 h1 h2 (dI h3) h4 h5),hS.dM⟩)
 refine aY f67 9 [2] [0,0] [vi (sQ k.s),vF,vF,JQ,JQ,JQ,JQ,vF,vF] [] (jY 1<|eU vF (jP h5)<|jX 7) (aG ?_)
 exact mR (v:=vF) (fun _ hS=>⟨jB (snd_end5 h1 h2 (dI h3) h4 h5),hS.dM⟩)
theorem Bl (k:Ky) (hk:k.Ok) (w0:JS):Calls prog 63 #[bW (kY k)] w0 (jR (.bool (wB k)) w0):=by
 refine Calls.cW 36 (fun _=>True) func63 rfl rfl rfl jT (sS f63 2 [1,2] [] (fun r=>[bG r 0,vF]) (fun r=>(pO 0 r (kY k) 56)) (jX 2) (fun r1=>aC ?_))
 rcases jO (decide (k.d<0)) with h1 | h1
 ·refine aY f63 14 [1,2,18] [] [bH r1 0 40,vi k.d,vT,vT,JQ,JQ,JQ,vT,vT,JQ,JQ,JQ,JQ,vT] [] (cR [[],[0]]<|eU vT (jP h1)<|jX 11) (oY (jJ f63 1 [1,2] [vF] (aG (aB ?_))))
  exact mR (v:=vF) (fun _ hS=>⟨jB (snd_end1 h1),hS.dM⟩)
 rcases jO (decide (8<k.d)) with h2 | h2
 ·refine aY f63 14 [1,2,18] [] [bH r1 0 40,vi k.d,vF,vF,bH r1 0 40,vi k.d,vT,vT,vT,JQ,JQ,JQ,JQ,vT] [] (cR [[],[0]]<|eU vF (jP h1)<|cR qA<|eU vT (jP h2)<|jX 7) (oY (jJ f63 1 [1,2] [vF] (aG (aB ?_))))
  exact mR (v:=vF) (fun _ hS=>⟨jB (snd_end2 h1 h2),hS.dM⟩)
 refine aY f63 14 [1,2,18] [] [bH r1 0 40,vi k.d,vF,vF,bH r1 0 40,vi k.d,vF,vF,vF,bH r1 0 4,U k.p,.bool (wH k.p),.bool (!(wH k.p)),.bool (!(wH k.p))] [] (cR [[],[0]]<|eU vF (jP h1)<|cR qA<|eU vF (jP h2)<|cR x8<|oO (rvalid_any k.p hk.p)<|jX 2) (oC (!(wH k.p)) (fun h3=>?_) (fun h3=>?_))
 ·rw [h3]
  refine jJ f63 1 [1,2] [vF] (aG (aB ?_))
  exact mR (v:=vF) (fun _ hS=>⟨jB (snd_end3 h1 h2 (kP h3)),hS.dM⟩)
 rw [h3]
 refine aI (aA (aC (aY f63 3 [1,2,21] [] [bG r1 0,U k.s,.bool (decide (k.s=0))] [] (cR [[],[0]]<|cC (fun _ w=>o9 k.s w hk.s)<|cN) (oC (decide (k.s=0)) (fun h4=>?_) (fun h4=>?_)))))
 ·rw [h4]
  refine jJ f63 1 [1,2] [vT] (aG (aB ?_))
  exact mR (v:=vT) (fun _ hS=>⟨jB (snd_ok4 h1 h2 (dI h3) h4),hS.dM⟩)
 rw [h4]
 refine aI (aA (sS f63 9 [1,2,3,4] [] (fun r=>[bG r1 0,U k.s,qy65 k.s,qy65 k.s,U (oW k.s),vi (sQ k.s),bG r 6,JQ,vi (sQ k.s)]) (fun r=>[(6,(fB r 6 (cU 0) 54)),(7,(jD 49 r 6 (cU (oW k.s)) 54))]) (cR [[],[0]]<|oO (Ey k.s hk.s)<|jE [[],[],[],[],[49],[]]) (fun _=>?_)))
 rcases jO ((sQ k.s)==0) with h5 | h5
 ·refine aY f63 9 [2] [0,0] (let qa:JR:=.bool (decide (oW k.s=k.p));[vi (sQ k.s),vT,vT,U (oW k.s),bH r1 0 4,U k.p,qa,qa,qa]) [] (jY 1<|eU vT (jP h5)<|cR [[],[1],[],[0]]<|cB (a:=fun r=>(U (oW k.s))) (b:=fun r=>(U k.p)) (v:=fun r=>(.bool (decide (oW k.s=k.p)))) .eql 54 (fun _ _=>eqlU (oW k.s) k.p (pubV_lt _) hk.p _)<|jX 2) (aG ?_)
  exact mR (v:=(.bool (decide (oW k.s=k.p)))) (fun _ hS=>⟨jB (snd_ok5 h1 h2 (dI h3) h4 h5),hS.dM⟩)
 refine aY f63 9 [2] [0,0] [vi (sQ k.s),vF,vF,JQ,JQ,JQ,JQ,vF,vF] [] (jY 1<|eU vF (jP h5)<|jX 7) (aG ?_)
 exact mR (v:=vF) (fun _ hS=>⟨jB (snd_end5 h1 h2 (dI h3) h4 h5),hS.dM⟩)
theorem run_remI {P:JU} {t:JV} {v:Int} (hn:0<n) (w:JS):(binOp .rem t (.int .i64 v) (.int .i64 (n:Int))).run P w=.ok (.int .i64 (Jb v (n:Int))) w:=by
 simp only [binOp,Op.intDiv,ne_eq,not_true_eq_false,if_false,if_neg (by omega: ¬ (n:Int)=0)]
 rfl
theorem mod_wrap {v:Int} (hn:0<n/\n<=1099511627776) (h:Jb v n<0):JO.wrap (Jb v (n:Int)+(n:Int))=((dm v n:Nat):Int):=by
 have h1:=mod_neg hn.1 h
 have h2:=dm_lt v hn.1
 rw [h1]
 exact pY om
def Z64 (zs:List Int):Prop:=∀ z∈zs,-9223372036854775808<=z/\z<9223372036854775808
theorem Z64.get {zs:List Int} (h:Z64 zs) (i:Nat): -9223372036854775808<=gI zs i/\gI zs i<9223372036854775808:=by
 unfold gI
 by_cases hi:i<zs.length
 ·rw [IW, List.getElem?_eq_getElem hi]
  exact h _ (List.getElem_mem hi)
 ·rw [IW, List.getElem?_eq_none om]
  decide
theorem pN_wrap {zs:List Int} {j:Nat} (hl:zs.length<=140737488351232) (h:((pN zs j:Nat):Int)<((zs.length:Nat):Int)):JO.wrap (((pN zs j:Nat):Int)+1)=((pN zs (j+1):Nat):Int):=by
 have h1:=pN_succ (zs:=zs) (j:=j) om
 rw [h1,pY om]
 omega
theorem pN_back {zs:List Int} {j:Nat} (hl:zs.length<=140737488351232) (h:((pN zs j:Nat):Int)<((zs.length:Nat):Int)):JO.wrap (((pN zs (j+1):Nat):Int)-1)=((pN zs j:Nat):Int):=by
 have h1:=pN_succ (zs:=zs) (j:=j) om
 rw [h1,pY om]
 omega
theorem mod_any (v:Int) (n:Nat) (hn:0<n/\n<=1099511627776) (__hv: -9223372036854775808<=v/\v<9223372036854775808) (w0:JS):Calls prog 14 #[vi v,vn n] w0 (jR (vn (dm v n)) w0):=by
 refine Calls.cW 15 (fun _=>True) func14 rfl rfl rfl jT (jJ f14 1 [0,1,4] [vi 0] (aY f14 4 [1,4,5] [] (let qa:=vi (Jb v (n:Int));[vi v,vn n,qa,qa]) [] (jY 2<|cB (a:=fun r=>(vi v)) (b:=fun r=>(vn n)) (v:=fun r=>(vi (Jb v (n:Int)))) .rem 3 (fun _ w=>run_remI hn.1 w)<|jX 1) (aC (jJ f14 2 [1,4,5,10] [vi (Jb v (n:Int)),.bool (decide ((Jb v (n:Int))<0))] (oC (decide ((Jb v (n:Int))<0)) (fun h1=>?_) (fun h1=>?_))))))
 ·rw [h1]
  refine lV f14 4 [4,5] [] [vi (Jb v (n:Int)),vn n,vn (dm v n),vn (dm v n)] [] (jY 2<|eU (vn (dm v n)) (jI (mod_wrap hn (yT h1)))<|jX 1) (aA (jJ f14 2 [4] [vn (dm v n),vn (dm v n)] (aG ?_)))
  exact mR (v:=(vn (dm v n))) (fun _ hS=>⟨rfl,hS.dM⟩)
 rw [h1]
 refine aI (aA (jJ f14 2 [4] (let qa:=vi (Jb v (n:Int));[qa,qa]) (aG ?_)))
 exact mR (v:=(vi (Jb v (n:Int)))) (fun _ hS=>⟨congrArg (fun x=>IJ (vi x)) (mod_pos (yF h1)),hS.dM⟩)
theorem left_any (g:Nat) (a:OA) (c:Nat) (zs:List Int) (j:Nat) (w0:JS) (hf0:Kb w0 g #[aW a zs.length c,vn (pN zs j)]):Calls prog 36 #[pt g] w0 (jR (.bool (decide ((pN zs j:Int)<(zs.length:Int)))) w0):=by
 refine Calls.cW 13 (fun w=>Kb w g #[aW a zs.length c,vn (pN zs j)]/\True) func36 rfl rfl rfl (hf0.dW.and iD) (jJ f36 1 [0,2] [vF] (Au f36 [0,1,3,7,0,16,48,112,240,511,1023] 11 [2] [] (let qa:JR:=.bool (decide ((pN zs j:Int)<(zs.length:Int)));[pt g,pt g,jp g 1,vn (pN zs j),pt g,pt g,pt g,aW a zs.length c,vn zs.length,qa,qa]) [] (jY 3<|nM (v:=fun r=>(vn (pN zs j))) (fun hG=>EG (off:=1) isAgg3 hG.fn.1 (rfl))<|jY 3<|nM (v:=fun r=>(aW a zs.length c)) (fun hG=>EG (off:=0) isAgg22 hG.fn.1 (rfl))<|jX 3) (aG ?_)))
 exact mR (v:=(.bool (decide ((pN zs j:Int)<(zs.length:Int))))) (fun _ hS=>⟨rfl,hS.dM⟩)
abbrev wK:=fun p0 p1 p2 p3 p4=>cL #[.slice p0 p1 p2,vn (pN p3 p4)] 62
abbrev tY:=fun p0 p1=>(.pointer (zM p0 p1):JR)
abbrev rU:=fun p0 p1 p2 p3 p4 p5=>mQ 0 p0 (wK p1 p2 p3 p4 p5)
theorem nY (g:Nat) (a:OA) (c:Nat) (zs:List Int) (j:Nat) (n:Nat) (hn:0<n/\n<=1099511627776) (hz:Z64 zs) (w0:JS) (hK:bI [(g,(cL #[aW a zs.length c,vn (pN zs j)] 62))] w0) (hP:bZ (fun b=>b∈([(g,(cL #[aW a zs.length c,vn (pN zs j)] 62))]:List (Nat × Obj)).map (·.1)) (fun w=>Is w .i64 a c zs/\True) w0):Calls prog 20 #[pt g,vn n] w0 (fun ε w'=>ε=.returned (vn (dN zs j n))/\pG (fun b=>b∈([(g,(cL #[aW a zs.length c,vn (pN zs j)] 62))]:List (Nat × Obj)).map (·.1)) w0 w'/\bI [(g,(cL #[aW a zs.length c,vn (pN zs (j+1))] 62))] w'):=by
 refine Calls.nZ (n:=28) (F:=(fun w=>Is w .i64 a c zs/\True)) [(g,(wK a zs.length c zs j))] func20 rfl rfl rfl (by simp) hK (by simp) hP ?_
 have hlen:zs.length<=140737488351232:=hP.now.1.max
 refine jJ f20 1 [0,1,4] [vi 0] (aC (aY f20 3 [0,1,4,7] [] (let qa:=decide ((pN zs j:Int)<(zs.length:Int));[pt g,.bool (decide ((pN zs j:Int)<(zs.length:Int))),.bool (!(decide ((pN zs j:Int)<(zs.length:Int))))]) [] (jY 1<|zW (fun hG=>left_any g a c zs j _ (Kb.xB (hG.kn (g:=g) (o:=(wK a zs.length c zs j)) 0)))<|jX 1) (oC (!(decide ((pN zs j:Int)<(zs.length:Int)))) (fun t1=>?_) (fun t1=>?_))))
 ·rw [t1]
  refine jJ f20 1 [0,1,4] [vi 0] (aG (aB ?_))
  exact mR (v:=(vi 0)) (fun _ hS=>⟨congrArg (fun x=>IJ (vi x)) (congrArg (fun z:Nat=>(z:Int)) (dN_no (fun h=>absurd (Jw.2 h) (yF (kP t1))))),hS.aS,(by rw [(pN_ge (fun h=>absurd (Jw.2 h) (yF (kP t1)))).2];exact hS.dZ [1])⟩)
 rw [t1]
 have zh1:pN zs j<zs.length:=(Jw.1 (yT (dI t1)))
 refine aI (aA (aY f20 8 [0,1,4] [] [pt g,pt g,jp g 1,vn (pN zs j),vn (pN zs (j+1)),pt g,jp g 1,JQ] [(7,(rU g a zs.length c zs (j+1)))] (cR x8<|eU (vn (pN zs (j+1))) (jI (pN_wrap hlen (yT (dI t1))))<|jE qA) (Au f20 [0,1,3,7,0,16,48,112,240,511,1023,0,4095,8191] 14 [4] [] (let qa:=vn (dm (gI zs (pN zs j)) n);[pt g,pt g,pt g,aW a zs.length c,pt g,pt g,jp g 1,vn (pN zs (j+1)),vn (pN zs j),tY a (pN zs j),vi (gI zs (pN zs j)),vn n,qa,qa]) [] (cR [[],[],[],[0],[],[],[],[0]]<|eU (vn (pN zs j)) (jI (pN_back hlen (yT (dI t1))))<|nM (fun hG=>vO (k:=.i64) underlying22 sizeOf3 hG.fn.1 rfl (show (pN zs j:Int)=(pN zs j:Int) from rfl) zh1)<|nM (fun hG=>yL isAgg3 hG.fn.1 zh1)<|jY 1<|cC (f:=14) (args:=fun r=> #[vi (gI zs (pN zs j)),vn n]) (v:=fun r=>(vn (dm (gI zs (pN zs j)) n))) (fun _ w=>(fun w=>mod_any (gI zs (pN zs j)) n hn (hz.get _) w) w)<|jX 1) (aG ?_))))
 exact mR (v:=(vn (dm (gI zs (pN zs j)) n))) (fun _ hS=>⟨congrArg (fun x=>IJ (vi x)) (congrArg (fun z:Nat=>(z:Int)) (dN_yes (Jw.1 (yT (dI t1))))),hS.aS,hS.dZ [1]⟩)
theorem range_any (g:Nat) (a:OA) (c:Nat) (zs:List Int) (j:Nat) (lo:Nat) (hi:Nat) (hlh:lo<=hi/\hi<=1000000) (hz:Z64 zs) (w0:JS) (hK:bI [(g,(cL #[aW a zs.length c,vn (pN zs j)] 62))] w0) (hP:bZ (fun b=>b∈([(g,(cL #[aW a zs.length c,vn (pN zs j)] 62))]:List (Nat × Obj)).map (·.1)) (fun w=>Is w .i64 a c zs/\True) w0):Calls prog 23 #[pt g,vn lo,vn hi] w0 (fun ε w'=>ε=.returned (vn (lo+dN zs j (hi-lo+1)))/\pG (fun b=>b∈([(g,(cL #[aW a zs.length c,vn (pN zs j)] 62))]:List (Nat × Obj)).map (·.1)) w0 w'/\bI [(g,(cL #[aW a zs.length c,vn (pN zs (j+1))] 62))] w'):=by
 refine Calls.nZ (n:=15) (F:=(fun w=>Is w .i64 a c zs/\True)) [(g,(wK a zs.length c zs j))] func23 rfl rfl rfl (by simp) hK (by simp) hP (jJ f23 1 [0,1,2,6] [vi 0] (aY f23 9 [6] [] (let qa:=vn (lo+dN zs j (hi-lo+1));[vn lo,pt g,vn hi,vn lo,vn (hi-lo),vn (hi-lo+1),vn (dN zs j (hi-lo+1)),qa,qa]) [(6,(rU g a zs.length c zs (j+1)))] (jY 4<|DV ((hi:Int)-(lo:Int)) (hi-lo) ((pY om).trans om)<|DV (((hi-lo:Nat):Int)+1) (hi-lo+1) ((pY om).trans om)<|cX (qW [0] (fun _ _ w hG hK=>nY g a c zs j (hi-lo+1) om hz w hK (hG.pK [0] (fun _ hF=>⟨hF.1,trivial⟩))))<|DV ((lo:Int)+(dN zs j (hi-lo+1):Int)) (lo+dN zs j (hi-lo+1)) ((pY (oA (rY zs j (n:=hi-lo+1) (by omega)))).trans om)<|jX 1) (aG ?_)))
 exact mR (v:=(vn (lo+dN zs j (hi-lo+1)))) (fun _ hS=>⟨rfl,hS.aS,hS.dZ [1]⟩)
theorem msecret_any (g:Nat) (a:OA) (c:Nat) (zs:List Int) (j:Nat) (hz:Z64 zs) (w0:JS) (hK:bI [(g,(cL #[aW a zs.length c,vn (pN zs j)] 62))] w0) (hP:bZ (fun b=>b∈([(g,(cL #[aW a zs.length c,vn (pN zs j)] 62))]:List (Nat × Obj)).map (·.1)) (fun w=>Is w .i64 a c zs/\True) w0):Calls prog 65 #[pt g] w0 (fun ε w'=>ε=.returned (U (mkX zs j))/\pG (fun b=>b∈([(g,(cL #[aW a zs.length c,vn (pN zs j)] 62))]:List (Nat × Obj)).map (·.1)) w0 w'/\bI [(g,(cL #[aW a zs.length c,vn (pN zs (j+1))] 62))] w'):=by
 refine Calls.nZ (n:=7) (F:=(fun w=>Is w .i64 a c zs/\True)) [(g,(wK a zs.length c zs j))] func65 rfl rfl rfl (by simp) hK (by simp) hP (sS f65 1 [0,2] [] (fun r=>[bG r 0]) (fun r=>(pO 0 r (cU 0) 54)) (jX 1) (fun r1=>aY f65 5 [2] [] [pt g,vn (1+dN zs j 4),vx (1+dN zs j 4),U (1+dN zs j 4),JQ] [(1,(rU g a zs.length c zs (j+1))),(4,(jD 1 r1 0 (cU (1+dN zs j 4)) 54))] (jY 1<|cX (qW [0] (fun _ _ w hG hK=>range_any g a c zs j 1 4 dC hz w hK (hG.pK [0] (fun _ hF=>⟨hF.1,trivial⟩))))<|cA (v:=fun r=>(dJ (IQ.wrap ((1+dN zs j 4:Nat):Int)))) (fun _=>(vx (1+dN zs j 4))) (fun _=>congrArg (IM .u64) (u64N (by have h:=mkX_pos zs j;unfold mkX at h;omega)))<|cC (fun _ w=>lZ (1+dN zs j 4) w (by have h:=mkX_pos zs j;unfold mkX at h;omega))<|jE [[1]]) (aG ?_)))
 exact mR (v:=(U (1+dN zs j 4))) (ps:=[1,1,1,1]) (fun _ hS=>⟨rfl,hS.aS,hS.dZ [1,0]⟩)
theorem mpublic_any (x:Nat) (hx:x<M) (w0:JS):Calls prog 66 #[U x] w0 (jR (U (oW x)) w0):=by
 refine Calls.cW 11 (fun _=>True) func66 rfl rfl rfl jT (sS f66 2 [1,2] [] (fun r=>[bG r 0,bG r 1]) (fun r=>(qy103 r x)) (jX 2) (fun r1=>sS f66 8 [2,3] [0,1,1] (fun r=>[U x,qy65 x,qy65 x,U (oW x),vi (sQ x),bG r 5,JQ,vi (sQ x)]) (fun r=>[(5,(fB r 5 (cU 0) 54)),(6,(jD 42 r 5 (cU (oW x)) 54))]) (cR [[0]]<|oO (Ey x hx)<|jE [[],[],[],[],[42],[]]) (fun _=>aY f66 2 [2] [1,0] [U (oW x),JQ] [(1,(jD 0 r1 1 (cU (oW x)) 54))] (jE [[1],[0]]) (aG ?_))))
 exact mR (v:=(U (oW x))) (fun _ hS=>⟨rfl,hS.dM⟩)
theorem mhash_any (g:Nat) (a:OA) (c:Nat) (zs:List Int) (j:Nat) (hz:Z64 zs) (w0:JS) (hK:bI [(g,(cL #[aW a zs.length c,vn (pN zs j)] 62))] w0) (hP:bZ (fun b=>b∈([(g,(cL #[aW a zs.length c,vn (pN zs j)] 62))]:List (Nat × Obj)).map (·.1)) (fun w=>Is w .i64 a c zs/\True) w0):Calls prog 21 #[pt g] w0 (fun ε w'=>ε=.returned (oG (hs2 (dN zs j 5) (dN zs (j+1) 7)))/\pG (fun b=>b∈([(g,(cL #[aW a zs.length c,vn (pN zs j)] 62))]:List (Nat × Obj)).map (·.1)) w0 w'/\bI [(g,(cL #[aW a zs.length c,vn (pN zs (j+2))] 62))] w'):=by
 refine Calls.nZ (n:=10) (F:=(fun w=>Is w .i64 a c zs/\True)) [(g,(wK a zs.length c zs j))] func21 rfl rfl rfl (by simp) hK (by simp) hP (sS f21 1 [0,2] [] (fun r=>[bG r 0]) (fun r=>(pO 0 r (hB 0) 47)) (jX 1) (fun r1=>aY f21 8 [2] [] [pt g,vn (dN zs j 5),vy (dN zs j 5),pt g,vn (dN zs (j+1) 7),vy (dN zs (j+1) 7),oG (hs2 (dN zs j 5) (dN zs (j+1) 7)),JQ] [(1,(rU g a zs.length c zs (j+1))),(4,(rU g a zs.length c zs (j+2))),(7,(jD 1 r1 0 (hB (hs2 (dN zs j 5) (dN zs (j+1) 7))) 47))] (jY 1<|cX (qW [0] (fun _ _ w hG hK=>nY g a c zs j 5 dC hz w hK (hG.pK [0] (fun _ hF=>⟨hF.1,trivial⟩))))<|cA (v:=fun r=>(bU (IntKind.u8.wrap (dN zs j 5:Int)))) (fun _=>(vy (dN zs j 5))) (fun _=>congrArg (IM .u8) (u8N (IR (rY zs j dC) dC)))<|jY 1<|cX (qW [0] (fun _ _ w hG hK=>nY g a c zs (j+1) 7 dC hz w hK (hG.pK [0] (fun _ hF=>⟨hF.1,trivial⟩))))<|cA (v:=fun r=>(bU (IntKind.u8.wrap (dN zs (j+1) 7:Int)))) (fun _=>(vy (dN zs (j+1) 7))) (fun _=>congrArg (IM .u8) (u8N (IR (rY zs (j+1) dC) dC)))<|cA (v:=fun r=>(.agg #[vy (dN zs j 5),bU 0,bU 0,bU 0,bU 0,bU 0,bU 0,bU 0,bU 0,bU 0,bU 0,bU 0,bU 0,bU 0,bU 0,bU 0,bU 0,bU 0,bU 0,bU 0,bU 0,bU 0,bU 0,bU 0,bU 0,bU 0,bU 0,bU 0,bU 0,bU 0,bU 0,vy (dN zs (j+1) 7)])) (fun _=>(oG (hs2 (dN zs j 5) (dN zs (j+1) 7)))) (fun _=>hs2_agg (IR (rY zs j dC) dC) (IR (rY zs (j+1) dC) dC))<|jE [[1]]) (aG ?_)))
 exact mR (v:=(oG (hs2 (dN zs j 5) (dN zs (j+1) 7)))) (ps:=.replicate 32 1) (fun _ hS=>⟨rfl,hS.aS,hS.dZ [1,0]⟩)
abbrev zF:=kC 0 0 0 0 0 0
abbrev qy66:=fun p0 p1=>kC (mkX p0 p1) (oW (mkX p0 p1)) (hs2 (dN p0 (p1+1) 5) (dN p0 (p1+2) 7)) (dN p0 (p1+3) 3:Int) (dN p0 (p1+4) 5:Int) (dN p0 (p1+5) 5:Int)
abbrev qy70:=fun p0 p1=>kC 0 (oW (mkX p0 p1)) (hs2 (dN p0 (p1+1) 5) (dN p0 (p1+2) 7)) (dN p0 (p1+3) 3:Int) (dN p0 (p1+4) 5:Int) (dN p0 (p1+5) 5:Int)
theorem mkey_any (g:Nat) (a:OA) (c:Nat) (zs:List Int) (j:Nat) (pv:Bool) (hz:Z64 zs) (w0:JS) (hK:bI [(g,(cL #[aW a zs.length c,vn (pN zs j)] 62))] w0) (hP:bZ (fun b=>b∈([(g,(cL #[aW a zs.length c,vn (pN zs j)] 62))]:List (Nat × Obj)).map (·.1)) (fun w=>Is w .i64 a c zs/\True) w0):Calls prog 37 #[pt g,.bool pv] w0 (fun ε w'=>ε=.returned (bW (kY (mkK zs j pv)))/\pG (fun b=>b∈([(g,(cL #[aW a zs.length c,vn (pN zs j)] 62))]:List (Nat × Obj)).map (·.1)) w0 w'/\bI [(g,(cL #[aW a zs.length c,vn (pN zs (j+6))] 62))] w'):=by
 refine Calls.nZ (n:=26) (F:=(fun w=>Is w .i64 a c zs/\True)) [(g,(wK a zs.length c zs j))] func37 rfl rfl rfl (by simp) hK (by simp) hP (sS f37 1 [0,1,4] [] (fun r=>[bG r 0]) (fun r=>[(0,(fB r 0 zF 56))]) (jX 1) (fun r1=>sS f37 4 [0,1,4,5] [] (fun r=>[pt g,U (mkX zs j),bG r 2,JQ]) (fun r=>[(1,(rU g a zs.length c zs (j+1))),(2,(fB r 2 (cU 0) 54)),(3,(jD 18 r 2 (cU (mkX zs j)) 54))]) (jY 1<|cX (qW [0] (fun _ _ w hG hK=>msecret_any g a c zs j  hz w hK (hG.pK [0] (fun _ hF=>⟨hF.1,trivial⟩))))<|jE [[],[18]]) (fun _=>sS f37 15 [1,4,5,6] [] (fun r=>let qa:=hs2 (dN zs (j+1) 5) (dN zs (j+2) 7);[U (mkX zs j),U (oW (mkX zs j)),pt g,oG qa,pt g,vn (dN zs (j+3) 3),pt g,vn (dN zs (j+4) 5),vu (dN zs (j+4) 5),pt g,vn (dN zs (j+5) 5),vu (dN zs (j+5) 5),bW (kC 0 (oW (mkX zs j)) qa (dN zs (j+3) 3:Int) (dN zs (j+4) 5:Int) (dN zs (j+5) 5:Int)),bG r 13,JQ]) (fun r=>[(3,(rU g a zs.length c zs (j+3))),(5,(rU g a zs.length c zs (j+4))),(7,(rU g a zs.length c zs (j+5))),(10,(rU g a zs.length c zs (j+6))),(13,(fB r 13 zF 56)),(14,(jD 107 r 13 (qy70 zs j) 56))]) (cR [[2]]<|cC (f:=66) (args:=fun r=> #[U (mkX zs j)]) (v:=fun r=>(U (oW (mkX zs j)))) (fun _ w=>(fun w=>mpublic_any (mkX zs j) (mkX_lt _ _) w) w)<|jY 1<|cX (qW [0] (fun _ _ w hG hK=>mhash_any g a c zs (j+1)  hz w hK (hG.pK [0] (fun _ hF=>⟨hF.1,trivial⟩))))<|jY 1<|cX (qW [0] (fun _ _ w hG hK=>nY g a c zs (j+3) 3 dC hz w hK (hG.pK [0] (fun _ hF=>⟨hF.1,trivial⟩))))<|jY 1<|cX (qW [0] (fun _ _ w hG hK=>nY g a c zs (j+4) 5 dC hz w hK (hG.pK [0] (fun _ hF=>⟨hF.1,trivial⟩))))<|cA (v:=fun r=>(cO (Jf.wrap (dN zs (j+4) 5:Int)))) (fun _=>(vu (dN zs (j+4) 5))) (fun _=>jN (u32N (IR (rY zs (j+4) dC) dC)))<|jY 1<|cX (qW [0] (fun _ _ w hG hK=>nY g a c zs (j+5) 5 dC hz w hK (hG.pK [0] (fun _ hF=>⟨hF.1,trivial⟩))))<|cA (v:=fun r=>(cO (Jf.wrap (dN zs (j+5) 5:Int)))) (fun _=>(vu (dN zs (j+5) 5))) (fun _=>jN (u32N (IR (rY zs (j+5) dC) dC)))<|jE [[],[],[107]]) (fun r3=>aC (jJ f37 1 [4,5,6,22] [.bool pv] (oC pv (fun h1=>?_) (fun h1=>?_)))))))
 ·rw [h1]
  refine lV f37 3 [4,6] [1,1,0,1] [U (mkX zs j),bG r3 13,JQ] [(2,(jD 3 r3 13 (qy66 zs j) 56))] (jE [[2],[],[3]]) (aA (aY f37 2 [4] [1,1,0] [bW (qy66 zs j),JQ] [(1,(jD 1 r1 0 (qy66 zs j) 56))] (jE [[2],[1]]) (aG ?_)))
  exact mR (v:=(bW (qy66 zs j))) (ps:=.replicate 43 1) (fun _ hS=>⟨rfl,hS.aS,hS.dZ [1,0]⟩)
 rw [h1]
 refine aI (aA (aY f37 2 [4] [1,1,0,0] [bW (qy70 zs j),JQ] [(1,(jD 1 r1 0 (qy70 zs j) 56))] (jE [[3],[1]]) (aG ?_)))
 exact mR (v:=(bW (qy70 zs j))) (ps:=.replicate 43 1) (fun _ hS=>⟨rfl,hS.aS,hS.dZ [1,0]⟩)
theorem mnew_any (a:OA) (c:Nat) (zs:List Int) (w0:JS) (hf0:Is w0 .i64 a c zs):Calls prog 8 #[aW a zs.length c] w0 (fun ε w'=>∃ g,ε=.returned (pt g)/\jG w0 w'/\w0.heap.size<=g/\w'.heap[g]? = some (cL #[aW a zs.length c,vn (pN zs 0)] 62)):=by
 refine Calls.cW 6 (fun w=>Is w .i64 a c zs/\True) func8 rfl rfl rfl (hf0.dW.and iD) (jJ f8 1 [0,2] [.pointer none] (sS f8 4 [2] [] (fun r=>[aW a zs.length c,.agg #[aW a zs.length c,vi 0],bG r 2,bG r 2]) (fun r=>[(2,(nw r 2 (cL #[aW a zs.length c,vi 0] 62)))]) (jX 4) (fun r2=>aG (mD [(2,(bG r2 2))] [(nb r2 2,(cL #[aW a zs.length c,vi 0] 62))] ?_))))
 exact mR (v:=(bG r2 2)) (fun _ hS=>⟨nb r2 2,rfl,hS.dM,(hS.newb (.head _)).1,(hS.newb (.head _)).2.trans (by rw [pN_zero];rfl)⟩)
theorem rpad_any (n:Nat) (hn:n<=140737488351232) (w0:JS):Calls prog 78 #[vx n] w0 (fun ε w'=>∃ α κ,ε=.returned (gW (dE n) α κ)/\jG w0 w'/\Fs w0 w' α κ (dE n)):=by
 refine Calls.cW 31 (fun _=>True) func78 rfl rfl rfl jT (jJ f78 1 [0,2] [vz] (sS f78 2 [0,2,3] [] (fun r=>let qa:=vs (nb r 0) ([128]:LU).length 1;[qa,qa]) (fun r=>[(0,(nw r 0 (cL #[bU 128] 5)))]) (jX 2) (fun r2=>aC (aJ ?_))))
 refine oL (σ:=(Nat × Nat × (LU) × (Array JR) × Nat)) (fun s=>match s with |  ⟨_,g,X,_,κ⟩=>[(0,(vx n)),(2,vz),(3,(vs g X.length κ))]) (fun s=>match s with |  ⟨_,g,_,C,_⟩=>[(g,(cL C 5))]) (fun s=>match s with |  ⟨j,_,_,_,_⟩=>fG n-j)
  (fun s=>match s with |  ⟨j,_,X,C,κ⟩=>(j<=fG n)/\(X=128::IZ j 0)/\(Hd C X)/\(C.size=κ)/\(X.length<=κ)) ((0,nb r2 0,([128]:LU),#[bU 128],1)) (⟨I4 _,rfl,(rfl:Hd #[bU 128] [128]),rfl,IK 1⟩) [] ?_
 rintro ⟨j,g,X,C,κ⟩
 rintro ⟨hj,hX,hC,hs,hle⟩
 refine aC (aY f78 8 [0,2,3,13] [] [vx n,vs g X.length κ,vn X.length,vx X.length,vx (n+X.length),vx ((n+X.length)+8),vx (((n+X.length)+8)%64),.bool (((((n+X.length)+8)%64:Nat):Int) != 0)] [] (jY 3<|cA (v:=fun r=>(dJ (IQ.wrap (X.length:Int)))) (fun _=>(vx X.length)) (fun _=>congrArg (IM .u64) (u64N (oB (aV n) (yN hX))))<|cA (v:=fun r=>(dJ (IQ.wrap ((n:Int)+(X.length:Int))))) (fun _=>(vx (n+X.length))) (fun _=>congrArg (IM .u64) (Es n X.length (oB (aV n) (yN hX))))<|cA (v:=fun r=>(dJ (IQ.wrap (((n+X.length:Nat):Int)+8)))) (fun _=>(vx ((n+X.length)+8))) (fun _=>congrArg (IM .u64) (Es (n+X.length) 8 (oB (aV n) (yN hX))))<|cB (a:=fun r=>(vx ((n+X.length)+8))) (b:=fun r=>(rP 64)) (v:=fun r=>(vx (((n+X.length)+8)%64))) .rem 52 (fun _ w=>xC (k:=.u64) (n:=((n+X.length)+8)) (d:=64) dC w)<|jX 1) (oC (((((n+X.length)+8)%64:Nat):Int) != 0) (fun t1=>?_) (fun t1=>?_)))
 ·rw [t1]
  refine aI (aA (aJ ?_))
  rcases jO (decide (X.length+([0]:LU).length<=κ)) with t2 | t2
  ·refine rS f78 4 [0,2,3] [1,0] (fun r=>let qa:=vs g (X++([0]:LU)).length κ;[vs g X.length κ,vs (nb r 1) ([0]:LU).length 1,qa,qa]) (fun r=>[(1,(nw r 1 (cL #[bU 0] 5))),(2,(mQ 0 g (FN C X.length [0])))]) (jY 2<|cX (pR _ 0 (fun r=>do pure (I5 (<- I9 #[35,35] 35 #[vs g X.length κ,vs (nb r 1) ([0]:LU).length 1]))) (fun _=>g) (fun _=>(cL C 5)) (fun _=>(FN C X.length [0])) (fun _=>(fE (X++([0]:LU)) g κ)) (fun _=>kr) (fun _=>kr) (fun _=>kr) (fun _=>kr) tV (fun r _ _ hG hg=>qL underlying35 uT hg (Bs.src (tx:=35) underlying35 (Bs.o7 (hG.kn (g:=nb r 1) (o:=(cL #[bU 0] 5)) 9) (rfl:Hd #[bU 0] [0]) (IK 1) lb)) hs (yT t2)))<|jX 1) (fun _=>aH ?_)
   exact mN ((j+1,g,X++([0]:LU),lK C X.length (bs [0]),κ)) (by show fG n-(j+1)<fG n-j;have:=(G8 hj (by have h1:=bne0N t1;rw [yN hX] at h1;exact h1));omega) (⟨G8 hj (by have h1:=bne0N t1;rw [yN hX] at h1;exact h1),zer_next hX,Hd.lK hC rfl,(qR _ _ _ (yM hs (yT t2))).trans hs,vX (yT t2)⟩) []
  refine rS f78 4 [0,2,3] [0,0,1] (fun r=>let qa:=vs (nb r 2) (X++([0]:LU)).length ((X++([0]:LU)).length+bV r 2);[vs g X.length κ,vs (nb r 1) ([0]:LU).length 1,qa,qa]) (fun r=>[(1,(nw r 1 (cL #[bU 0] 5))),(2,(fB r 2 (grow C X.length (bs [0]) (bV r 2)) 5))]) (jY 2<|cX (qN (fun _ ζ=>(fE (X++([0]:LU)) (ζ.headD 0) ((X++([0]:LU)).length+ζ.tail.headD 0))) (fun _ ζ=>(cL (grow C X.length (bs [0]) (ζ.tail.headD 0)) 5)) (fun r _ _ hG=>zZ (ty:=35) underlying35 uT (hG.kn (g:=g) (o:=(cL C 5)) 0) (Bs.src (tx:=35) underlying35 (Bs.o7 (hG.kn (g:=nb r 1) (o:=(cL #[bU 0] 5)) 9) (rfl:Hd #[bU 0] [0]) (IK 1) lb)) hs hle (Jt (yF t2)) (by have:=yF t2;have:=hn;have:=aV n;have:=hj;have:=yN hX;simp only [IU,IP];omega)))<|jX 1) (fun r5=>aH ?_)
  exact mN ((j+1,nb r5 2,X++([0]:LU),grow C X.length (bs [0]) (bV r5 2),(X++([0]:LU)).length+bV r5 2)) (by show fG n-(j+1)<fG n-j;have:=(G8 hj (by have h1:=bne0N t1;rw [yN hX] at h1;exact h1));omega) (⟨G8 hj (by have h1:=bne0N t1;rw [yN hX] at h1;exact h1),zer_next hX,Hd.grow hC rfl,yB hC,IY _ _⟩) []
 rw [t1]
 refine bC (aF (aF (aO (aA (aC (jJ f78 1 [0,2,3,4] [vi 7] (aJ ?_)))))))
 refine oL (σ:=(Nat × Nat × (LU) × (Array JR) × Nat)) (fun s=>match s with |  ⟨k,g2,X2,_,κ2⟩=>[(0,(vx n)),(2,vz),(3,(vs g2 X2.length κ2)),(4,(vi (7-(k:Int))))]) (fun s=>match s with |  ⟨_,g2,_,C2,_⟩=>[(g2,(cL C2 5))]) (fun s=>match s with |  ⟨k,_,_,_,_⟩=>8-k)
  (fun s=>match s with |  ⟨k,_,X2,C2,κ2⟩=>(k<=8)/\(X2=128::(IZ (fG n) 0++be8 (8*n) k))/\(Hd C2 X2)/\(C2.size=κ2)/\(X2.length<=κ2)) ((0,g,X,C,κ)) (⟨by decide,zer_be hX (zer_end hj (by have h1:=bne0N' t1;rw [yN hX] at h1;exact h1)),hC,hs,hle⟩) [] ?_
 rintro ⟨k,g2,X2,C2,κ2⟩
 rintro ⟨hk,hX2,hC2,hs2,hle2⟩
 refine aC (jJ f78 2 [0,2,3,4,18] [vi (7-(k:Int)),.bool (decide (0<=(7-(k:Int))))] (oC (decide (0<=(7-(k:Int)))) (fun t3=>?_) (fun t3=>?_)))
 ·rw [t3]
  have:=yT t3
  refine aI (aA (aC (aJ ?_)))
  rcases jO (decide (X2.length+([ob ((8*n / 2^(56-8*k)%256:Nat):Int)]:LU).length<=κ2)) with t4 | t4
  ·refine rS f78 10 [0,2,3,4] [1,0] (fun r=>let qa:=([ob ((8*n / 2^(56-8*k)%256:Nat):Int)]:LU);let qb:=vs g2 (X2++qa).length κ2;[vs g2 X2.length κ2,vx n,vx (8*n),vi (7-(k:Int)),vn (56-8*k),qy205 n k,DN n k,vs (nb r 7) qa.length 1,qb,qb]) (fun r=>[(7,(nw r 7 (cL #[DN n k] 5))),(8,(mQ 0 g2 (FN C2 X2.length [ob ((8*n / 2^(56-8*k)%256:Nat):Int)])))]) (jY 2<|cA (v:=fun r=>(dJ (IQ.wrap (8*(n:Int))))) (fun _=>(vx (8*n))) (fun _=>congrArg (IM .u64) (u64_mulN 8 n (by have:=yT t4;have:=aV n;have:=iZ hX2;omega)))<|jY 1<|DV (8*(7-(k:Int))) (56-8*k) ((pY (by have:=yT t4;have:=aV n;have:=iZ hX2;omega)).trans (by have:=yT t4;have:=aV n;have:=iZ hX2;omega))<|cB (a:=fun r=>(vx (8*n))) (b:=fun r=>(vn (56-8*k))) (v:=fun r=>(qy205 n k)) .shr 52 (fun _ w=>pM (k:=.u64) (x:=8*n) (c:=56-8*k) (by have:=yT t4;have:=hn;have:=aV n;have:=hj;have:=hk;have:=iZ hX2;show 8*n<18446744073709551616;omega) w)<|eU (DN n k) (congrArg (IM .u8) (u8M (8*n / 2^(56-8*k))))<|jY 1<|cX (pR _ 0 (fun r=>do pure (I5 (<- I9 #[35,35] 35 #[vs g2 X2.length κ2,DI r 7 [ob ((8*n / 2^(56-8*k)%256:Nat):Int)] 1]))) (fun _=>g2) (fun _=>(cL C2 5)) (fun _=>(FN C2 X2.length [ob ((8*n / 2^(56-8*k)%256:Nat):Int)])) (fun _=>(fE (X2++([ob ((8*n / 2^(56-8*k)%256:Nat):Int)]:LU)) g2 κ2)) (fun _=>kr) (fun _=>kr) (fun _=>kr) (fun _=>kr) tV (fun r _ _ hG hg=>qL underlying35 uT hg (Bs.src (tx:=35) underlying35 (Bs.o7 (hG.kn (g:=nb r 7) (o:=(cL #[DN n k] 5)) 57) (hd1 om) (IK 1) lb)) hs2 (yT t4)))<|jX 1) (fun _=>aH (aA (lV f78 3 [0,2,3,4] [] (let qa:=vi (7-((k+1:Nat):Int));[vi (7-(k:Int)),qa,qa]) [] (jY 1<|jUc ((7-(k:Int))-1) (7-((k+1:Nat):Int)) ((pY (by have:=yT t4;have:=aV n;have:=iZ hX2;omega)).trans om)<|jX 1) (?_))))
   exact mN ((k+1,g2,X2++([ob ((8*n / 2^(56-8*k)%256:Nat):Int)]:LU),lK C2 X2.length (bs ([ob ((8*n / 2^(56-8*k)%256:Nat):Int)]:LU)),κ2)) (by show 8-(k+1)<8-k;have:=yT t4;have:=aV n;have:=iZ hX2;omega) (⟨(by have:=yT t4;have:=aV n;have:=iZ hX2;omega),pad_next hX2,Hd.lK hC2 rfl,(qR _ _ _ (yM hs2 (yT t4))).trans hs2,vX (yT t4)⟩) []
  refine rS f78 10 [0,2,3,4] [0,0,1] (fun r=>let qa:=([ob ((8*n / 2^(56-8*k)%256:Nat):Int)]:LU);let qb:=vs (nb r 8) (X2++qa).length ((X2++qa).length+bV r 8);[vs g2 X2.length κ2,vx n,vx (8*n),vi (7-(k:Int)),vn (56-8*k),qy205 n k,DN n k,vs (nb r 7) qa.length 1,qb,qb]) (fun r=>[(7,(nw r 7 (cL #[DN n k] 5))),(8,(fB r 8 (grow C2 X2.length (bs ([ob ((8*n / 2^(56-8*k)%256:Nat):Int)]:LU)) (bV r 8)) 5))]) (jY 2<|cA (v:=fun r=>(dJ (IQ.wrap (8*(n:Int))))) (fun _=>(vx (8*n))) (fun _=>congrArg (IM .u64) (u64_mulN 8 n (by have:=yF t4;have:=aV n;have:=iZ hX2;omega)))<|jY 1<|DV (8*(7-(k:Int))) (56-8*k) ((pY (by have:=yF t4;have:=aV n;have:=iZ hX2;omega)).trans (by have:=yF t4;have:=aV n;have:=iZ hX2;omega))<|cB (a:=fun r=>(vx (8*n))) (b:=fun r=>(vn (56-8*k))) (v:=fun r=>(qy205 n k)) .shr 52 (fun _ w=>pM (k:=.u64) (x:=8*n) (c:=56-8*k) (by have:=yF t4;have:=hn;have:=aV n;have:=hj;have:=hk;have:=iZ hX2;show 8*n<18446744073709551616;omega) w)<|eU (DN n k) (congrArg (IM .u8) (u8M (8*n / 2^(56-8*k))))<|jY 1<|cX (qN (fun _ ζ=>(fE (X2++([ob ((8*n / 2^(56-8*k)%256:Nat):Int)]:LU)) (ζ.headD 0) ((X2++([ob ((8*n / 2^(56-8*k)%256:Nat):Int)]:LU)).length+ζ.tail.headD 0))) (fun _ ζ=>(cL (grow C2 X2.length (bs ([ob ((8*n / 2^(56-8*k)%256:Nat):Int)]:LU)) (ζ.tail.headD 0)) 5)) (fun r _ _ hG=>zZ (ty:=35) underlying35 uT (hG.kn (g:=g2) (o:=(cL C2 5)) 0) (Bs.src (tx:=35) underlying35 (Bs.o7 (hG.kn (g:=nb r 7) (o:=(cL #[DN n k] 5)) 57) (hd1 om) (IK 1) lb)) hs2 hle2 (Jt (yF t4)) (by have:=yF t4;have:=hn;have:=aV n;have:=hj;have:=hk;have:=iZ hX2;simp only [IU,IP];omega)))<|jX 1) (fun r10=>aH (aA (lV f78 3 [0,2,3,4] [] (let qa:=vi (7-((k+1:Nat):Int));[vi (7-(k:Int)),qa,qa]) [] (jY 1<|jUc ((7-(k:Int))-1) (7-((k+1:Nat):Int)) ((pY (by have:=yF t4;have:=aV n;have:=iZ hX2;omega)).trans om)<|jX 1) (?_))))
  exact mN ((k+1,nb r10 8,X2++([ob ((8*n / 2^(56-8*k)%256:Nat):Int)]:LU),grow C2 X2.length (bs ([ob ((8*n / 2^(56-8*k)%256:Nat):Int)]:LU)) (bV r10 8),(X2++([ob ((8*n / 2^(56-8*k)%256:Nat):Int)]:LU)).length+bV r10 8)) (by show 8-(k+1)<8-k;have:=yF t4;have:=aV n;have:=iZ hX2;omega) (⟨(by have:=yF t4;have:=aV n;have:=iZ hX2;omega),pad_next hX2,Hd.grow hC2 rfl,yB hC2,IY _ _⟩) []
 rw [t3]
 refine bC (aF (aF (aO (aA (jJ f78 2 [2] [vs g2 X2.length κ2,vs g2 X2.length κ2] (aG (mD [(2,(vs g2 X2.length κ2))] [(g2,(cL C2 5))] ?_)))))))
 exact mR (v:=(vs g2 X2.length κ2)) (fun _ hS=>⟨wF g2,κ2,congrArg IJ (by rw [(pad_end hX2 (by have:=yF t3;have:=aV n;have:=iZ hX2;omega))]),hS.dM,rC (pad_end hX2 (by have:=yF t3;have:=aV n;have:=iZ hX2;omega)) (hS.fresh (.head _) hC2 hle2 (by have:=aV n;have:=yN hX;have:=iZ hX2;omega))⟩)
abbrev qy148:=fun p0 p1 p2 p3=>cL (lK (lK (zB (p0+p1)) ([]:LU).length (bs p2)) (([]:LU)++p2).length (bs p3)) 5
abbrev qy221:=fun p0 p1 p2=>cL (lK (zB (p0+p1)) ([]:LU).length (bs p2)) 5
theorem Dh (a:OA) (c:Nat) (B:LU) (a2:OA) (c2:Nat) (S:LU) (hl:B.length+S.length<=140737488351232) (w0:JS) (hf0:Bs w0 a c B) (hf1:Bs w0 a2 c2 S):Calls prog 137 #[aW a B.length c,aW a2 S.length c2] w0 (fun ε w'=>∃ α κ,ε=.returned (gW (B++S) α κ)/\jG w0 w'/\Fs w0 w' α κ (B++S)):=by
 refine Calls.cW 17 (fun w=>Bs w a c B/\Bs w a2 c2 S/\True) func137 rfl rfl rfl (hf0.dW.and (hf1.dW.and iD)) (jJ f137 1 [0,1,4] [vz] (sS f137 7 [0,1,4,5] [] (fun r=>let qa:=vs (nb r 5) ([]:LU).length (B.length+S.length);[aW a B.length c,vn B.length,aW a2 S.length c2,vn S.length,vn (B.length+S.length),qa,qa]) (fun r=>[(5,(nw r 5 (cL (zB (B.length+S.length)) 5)))]) (jY 4<|oD (bF B.length S.length om)<|cX (Eg _ (fun _=>do pure (I5 (<- Instr.makeSlice 35 (vi 0) (vn (B.length+S.length))))) (fun _ ζ=>(fE ([]:LU) (ζ.headD 0) (B.length+S.length))) (fun _ _=>(cL (zB (B.length+S.length)) 5)) (fun _ _=>kr) (fun _=>kr) tV (fun _ _ w _=>yH underlying35 uT ([]:LU) (rfl) (rfl) (I4 _) hl w))<|jX 1) (fun r2=>aY f137 6 [4] [] (let qa:=vs (nb r2 5) ((([]:LU)++B)++S).length (B.length+S.length);[fE ([]:LU) (nb r2 5) (B.length+S.length),aW a B.length c,fE (([]:LU)++B) (nb r2 5) (B.length+S.length),aW a2 S.length c2,qa,qa]) (let qa:=lK (zB (B.length+S.length)) ([]:LU).length (bs B);[(2,(mQ 0 (nb r2 5) (cL qa 5))),(4,(mQ 0 (nb r2 5) (cL (lK qa (([]:LU)++B).length (bs S)) 5)))]) (jY 2<|cX (pR _ 0 (fun _=>do pure (I5 (<- I9 #[35,35] 35 #[fE ([]:LU) (nb r2 5) (B.length+S.length),aW a B.length c]))) (fun _=>nb r2 5) (fun _=>(cL (zB (B.length+S.length)) 5)) (fun _=>(qy221 B.length S.length B)) (fun _=>(fE (([]:LU)++B) (nb r2 5) (B.length+S.length))) (fun _=>kr) (fun _=>kr) (fun _=>kr) (fun _=>kr) tV (fun _ _ _ hG hg=>qL underlying35 uT hg (Bs.src (tx:=35) underlying35 hG.fn.1) (zT _) (by simp only [IP];omega)))<|jY 1<|cX (pR _ 0 (fun _=>do pure (I5 (<- I9 #[35,35] 35 #[fE (([]:LU)++B) (nb r2 5) (B.length+S.length),aW a2 S.length c2]))) (fun _=>nb r2 5) (fun _=>(qy221 B.length S.length B)) (fun _=>(qy148 B.length S.length B S)) (fun _=>(fE ((([]:LU)++B)++S) (nb r2 5) (B.length+S.length))) (fun _=>kr) (fun _=>kr) (fun _=>kr) (fun _=>kr) tV (fun _ _ _ hG hg=>qL underlying35 uT hg (Bs.src (tx:=35) underlying35 hG.fn.2.1) ((qR _ _ _ (yM (zT _) (by simp only [IP];omega))).trans (zT _)) (IK _)))<|jX 1) (aG (mD [(4,(fE ((([]:LU)++B)++S) (nb r2 5) (B.length+S.length)))] [(nb r2 5,(qy148 B.length S.length B S))] ?_)))))
 exact mR (v:=(fE ((([]:LU)++B)++S) (nb r2 5) (B.length+S.length))) (fun _ hS=>⟨rF r2 5 0,B.length+S.length,congrArg IJ (rfl),hS.dM,rC (rfl) (hS.fresh (.head _) (Hd.lK (Hd.lK (Hd.nil _) rfl) rfl) (vX (IK _)) (vX hl))⟩)
theorem join3_any (g:Nat) (a0:OA) (c0:Nat) (B0:LU) (a1:OA) (c1:Nat) (B1:LU) (a2:OA) (c2:Nat) (B2:LU) (hl:B0.length+B1.length+B2.length<=140737488351232) (__h0:0<B0.length) (w0:JS) (hf0:Kb w0 g #[aW a0 B0.length c0,aW a1 B1.length c1,aW a2 B2.length c2]) (hf1:Bs w0 a0 c0 B0) (hf2:Bs w0 a1 c1 B1) (hf3:Bs w0 a2 c2 B2):Calls prog 102 #[vs g 3 3] w0 (fun ε w'=>∃ α κ,ε=.returned (gW ((B0++B1)++B2) α κ)/\jG w0 w'/\Fs w0 w' α κ ((B0++B1)++B2)):=by
 refine Calls.cW 17 (fun w=>Kb w g #[aW a0 B0.length c0,aW a1 B1.length c1,aW a2 B2.length c2]/\Bs w a0 c0 B0/\Bs w a1 c1 B1/\Bs w a2 c2 B2/\True) func102 rfl rfl rfl (hf0.dW.and (hf1.dW.and (hf2.dW.and (hf3.dW.and iD)))) (jJ f102 1 [0,2] [vz] (jJ f102 1 [0,2,3] [vz] (aC (jJ f102 3 [2,3,6,7,8] [vs g 3 3,vi 3,vi 0] (aJ (lD 4 (fD (jJ f102 1 [2,3,6,7,8,9] [vT] (aC (oY (aI (aA (aC (aJ (aY f102 3 [2,3,5,6,7,8,9,10,11] [] [pt g,aW a0 B0.length c0,aW a0 B0.length c0] [] (jY 1<|nM (v:=fun r=>(aW a0 B0.length c0)) (fun hG=>EG (off:=0) isAgg35 hG.fn.1 (rfl))<|jX 1) (rSf f102 4 [2,3,5,6,7,8,9,10,11,12,13,14] [] (fun r=>let qa:JR:=.slice (oa r 2) (([]:LU)++B0).length (nb r 2);[vz,aW a0 B0.length c0,qa,qa]) eN (fun r=>[(2,fun w=>Fs w0 w (oa r 2) (nb r 2) (([]:LU)++B0))]) (fun r=>(fun w=>Kb w g #[aW a0 B0.length c0,aW a1 B1.length c1,aW a2 B2.length c2]/\Bs w a0 c0 B0/\Bs w a1 c1 B1/\Bs w a2 c2 B2/\Fs w0 w (oa r 2) (nb r 2) (([]:LU)++B0)/\True)) (fun _=>True) (fun _ _ hF hf=>⟨⟨hF.1,hF.2.1,hF.2.2.1,hF.2.2.2.1,hf 2,trivial⟩,trivial⟩) (jY 2<|qBc (fun hG=>Dh none 0 ([]:LU) a0 c0 B0 (by (try simp only [IL,IP])<;>(omega)) _ Bs.nil hG.fn.2.1)<|jX 1) (fun r6 _=>aH (aA (jL f102 2 [2,3,5,6,7,8,9,10,11,12,13,14,15] [] [vi 1,vi 1] [[],[]] (mM (fD (jJ f102 1 [2,3,5,6,7,8,9,10,11,12,13,14,15] [vT] (aC (oY ?_))))))))))))))))))))))))
 refine aI (aA (aC (aJ (aY f102 3 [2,3,5,6,7,8,9,10,11,12,13,14,15] [] [jp g 1,aW a1 B1.length c1,aW a1 B1.length c1] [] (jY 1<|nM (v:=fun r=>(aW a1 B1.length c1)) (fun hG=>EG (off:=1) isAgg35 hG.fn.1 (rfl))<|jX 1) (rSf f102 4 [2,3,5,6,7,8,9,10,11,12,13,14,15] [] (fun r=>let qa:JR:=.slice (oa r 2) ((([]:LU)++B0)++B1).length (nb r 2);[gW (([]:LU)++B0) (oa r6 2) (nb r6 2),aW a1 B1.length c1,qa,qa]) eN (fun r=>[(2,fun w=>Fs w0 w (oa r 2) (nb r 2) ((([]:LU)++B0)++B1))]) (fun r=>(fun w=>Kb w g #[aW a0 B0.length c0,aW a1 B1.length c1,aW a2 B2.length c2]/\Bs w a0 c0 B0/\Bs w a1 c1 B1/\Bs w a2 c2 B2/\Fs w0 w (oa r6 2) (nb r6 2) (([]:LU)++B0)/\Fs w0 w (oa r 2) (nb r 2) ((([]:LU)++B0)++B1)/\True)) (fun _=>True) (fun _ _ hF hf=>⟨⟨hF.1,hF.2.1,hF.2.2.1,hF.2.2.2.1,hF.2.2.2.2.1,hf 2,trivial⟩,trivial⟩) (jY 2<|qBc (fun hG=>Dh (oa r6 2) (nb r6 2) (([]:LU)++B0) a1 c1 B1 (by (try simp only [IL,IP])<;>(omega)) _ hG.fn.2.2.2.2.1.1 hG.fn.2.2.1)<|jX 1) (fun r10 _=>aH (aA (jL f102 2 [2,3,5,6,7,8,9,10,11,12,13,14,15] [] [vi 2,vi 2] [[],[]] (mM (fD (jJ f102 1 [2,3,5,6,7,8,9,10,11,12,13,14,15] [vT] (uF [(2,vz),(3,(gW ((([]:LU)++B0)++B1) (oa r10 2) (nb r10 2))),(5,(aW a1 B1.length c1)),(6,(vs g 3 3)),(7,(vi 3)),(8,(vi 2)),(9,vT),(10,(jp g 1)),(11,(aW a1 B1.length c1)),(12,(gW (([]:LU)++B0) (oa r6 2) (nb r6 2))),(13,(aW a1 B1.length c1)),(14,(gW ((([]:LU)++B0)++B1) (oa r10 2) (nb r10 2))),(15,(vi 2))] [] (aC (oY (aI (aA (aC (aJ (aY f102 3 [2,3,5,6,7,8,9,10,11,12,13,14,15] [] [jp g 2,aW a2 B2.length c2,aW a2 B2.length c2] [] (jY 1<|nM (v:=fun r=>(aW a2 B2.length c2)) (fun hG=>EG (off:=2) isAgg35 hG.fn.1 (rfl))<|jX 1) (rSf f102 4 [2,3,5,6,7,8,9,10,11,12,13,14,15] [] (fun r=>let qa:JR:=.slice (oa r 2) (((([]:LU)++B0)++B1)++B2).length (nb r 2);[gW ((([]:LU)++B0)++B1) (oa r10 2) (nb r10 2),aW a2 B2.length c2,qa,qa]) eN (fun r=>[(2,fun w=>Fs w0 w (oa r 2) (nb r 2) (((([]:LU)++B0)++B1)++B2))]) (fun r=>(fun w=>Kb w g #[aW a0 B0.length c0,aW a1 B1.length c1,aW a2 B2.length c2]/\Bs w a0 c0 B0/\Bs w a1 c1 B1/\Bs w a2 c2 B2/\Fs w0 w (oa r6 2) (nb r6 2) (([]:LU)++B0)/\Fs w0 w (oa r10 2) (nb r10 2) ((([]:LU)++B0)++B1)/\Fs w0 w (oa r 2) (nb r 2) (((([]:LU)++B0)++B1)++B2)/\True)) (fun _=>True) (fun _ _ hF hf=>⟨⟨hF.1,hF.2.1,hF.2.2.1,hF.2.2.2.1,hF.2.2.2.2.1,hF.2.2.2.2.2.1,hf 2,trivial⟩,trivial⟩) (jY 2<|qBc (fun hG=>Dh (oa r10 2) (nb r10 2) ((([]:LU)++B0)++B1) a2 c2 B2 (by (try simp only [IL,IP])<;>(omega)) _ hG.fn.2.2.2.2.2.1.1 hG.fn.2.2.2.1)<|jX 1) (fun r14 _=>aH (aA (jL f102 2 [2,3,5,6,7,8,9,10,11,12,13,14,15] [] [vi 3,vi 3] [[],[]] (mM ?_))))))))))))))))))))))))
 refine fD (jJ f102 1 [2,3,5,6,7,8,9,10,11,12,13,14,15] [vF] (aC (oN (bC (aF (aF (aO (aA (jJ f102 2 [2] (let qa:JR:=.slice (oa r14 2) (((([]:LU)++B0)++B1)++B2).length (nb r14 2);[qa,qa]) (aG (mD [(2,(gW (((([]:LU)++B0)++B1)++B2) (oa r14 2) (nb r14 2)))] [] ?_)))))))))))
 exact mR (v:=(gW (((([]:LU)++B0)++B1)++B2) (oa r14 2) (nb r14 2))) (fun _ hS=>⟨oa r14 2,nb r14 2,congrArg IJ (rfl),hS.dM,rC (rfl) hS.facts.now.2.2.2.2.2.2.1⟩)
theorem sZ (x:Nat) (n:Nat) (hx:x<4294967296) (hn:0<n/\n<32) (w0:JS):Calls prog 110 #[vu x,vn n] w0 (jR (vu (aP x n)) w0):=by
 refine Calls.cW 9 (fun _=>True) func110 rfl rfl rfl jT (jJ f110 1 [0,1,4] [cO 0] (aY f110 5 [4] [] [vu x,vn n,vi (0-(n:Int)),Cb x n,Cb x n] [] (jY 2<|FC (0-(n:Int)) om<|oO (rotl_any x n hx hn)<|jX 1) (aG ?_)))
 exact mR (v:=(Cb x n)) (fun _ hS=>⟨rfl,hS.dM⟩)
theorem rsched_any (X:LU) (hX:X.length=64) (w0:JS):Calls prog 108 #[.agg (bs X).toArray] w0 (jR (qy163 (wN X)) w0):=by
 refine Calls.cW 97 (fun _=>True) func108 rfl rfl rfl jT (sS f108 2 [1,2] [] (fun r=>[bG r 0,bG r 1]) (fun r=>[(0,(nw r 0 (DF X))),(1,(nw r 1 (cL (gY .u32 64 (fun _=>0)) 145)))]) (jX 2) (fun r1=>sS f108 1 [1,2,3] [] (fun r=>[bG r 0]) (fun r=>[(0,(nw r 0 (cL (gY .u32 64 (fun _=>0)) 145)))]) (jX 1) (fun r2=>aC (jJ f108 1 [1,2,3,4] [vi 0] (aJ ?_)))))
 refine oL (σ:=Nat × (Array JR)) (fun ⟨i,_⟩=>[(1,(bG r1 0)),(2,(bG r1 1)),(3,(bG r2 0)),(4,(vn i))]) (fun ⟨_,C⟩=>[(nb r1 0,(DF X)),(nb r1 1,(cL (gY .u32 64 (fun _=>0)) 145)),(nb r2 0,(cL C 145))]) (fun ⟨i,_⟩=>16-i)
  (fun ⟨i,C⟩=>(i<=16)/\(C=gY .u32 64 (sc X i 0))) (0,gY .u32 64 (fun _=>0)) (⟨by decide,zrow_sc X⟩) [] ?_
 rintro ⟨i,C⟩ ⟨hi,hC⟩
 refine aC (jJ f108 2 [1,2,3,4,9] [vn i,.bool (decide ((i:Int)<16))] (oC (decide ((i:Int)<16)) (fun h1=>?_) (fun h1=>?_)))
 ·rw [h1]
  have:=yT h1
  refine aI (aA (aC (aJ (rDc f108 [0,0,2,6,14,30,62,0,128,384,896,1920,3968,8064,16382,0,32768,98304,229376,491520,1015808,2064384,4194302,0,8388608,25165824,58720256,125829120,260046848,536870910,1073741823,2147483647] 32 [1,2,3,4] [] (let qa:=gB X (4*i)*256+gB X ((4*i)+1);[vn i,vn i,vn (4*i),jp (nb r1 0) (4*i),kH X (4*i),vu (gB X (4*i)),vu (gB X (4*i)*16777216),vn i,vn (4*i),vn ((4*i)+1),sF r1 0 (4*i) 1,kH X ((4*i)+1),vu (gB X ((4*i)+1)),vu (gB X ((4*i)+1)*65536),vu (qa*65536),vn i,vn (4*i),vn ((4*i)+2),sF r1 0 (4*i) 2,kH X ((4*i)+2),vu (gB X ((4*i)+2)),vu (gB X ((4*i)+2)*256),vu ((qa*256+gB X ((4*i)+2))*256),vn i,vn (4*i),vn ((4*i)+3),sF r1 0 (4*i) 3,kH X ((4*i)+3),vu (gB X ((4*i)+3)),vu (word X i),bH r2 0 i,JQ]) [(31,(jD 2 r2 0 (C.setIfInBounds i (vu (word X i))) 145))] (jY 2<|oD (nG 4 i om)<|pI (II 113 (bG r1 0) (vn (4*i))) (jp (nb r1 0) (4*i)) (bK (n:=((4*i:Nat):Int)) (i:=4*i) underlying113 sizeOf5 om)<|uP 0 5 (nb r1 0) (4*i) ((bs X).toArray) 113 (kH X (4*i)) isAgg5 (H5 (by rw [hX];omega))<|cA (v:=fun r=>(cO (Jf.wrap (gB X (4*i):Int)))) (fun _=>(vu (gB X (4*i)))) (fun _=>jN (u32N (IR (gV _ _) dC)))<|cB (a:=fun r=>(vu (gB X (4*i)))) (b:=fun r=>(rP 24)) (v:=fun r=>(vu (gB X (4*i)*16777216))) .shl 45 (fun _ w=>Ae (k:=.u32) (yk:=.u64) (x:=gB X (4*i)) (c:=24) rfl (by have:=gV X (4*i);show _*16777216<4294967296;omega) (fun _=>by decide) w)<|jY 1<|oD (nG 4 i om)<|oD (bF (4*i) 1 om)<|pI (II 113 (bG r1 0) (vn ((4*i)+1))) (sF r1 0 (4*i) 1) (bK (n:=(((4*i)+1:Nat):Int)) (i:=(4*i)+1) underlying113 sizeOf5 om)<|uP 0 5 (nb r1 0) ((4*i)+1) ((bs X).toArray) 113 (kH X ((4*i)+1)) isAgg5 (H5 (by rw [hX];omega))<|cA (v:=fun r=>(cO (Jf.wrap (gB X ((4*i)+1):Int)))) (fun _=>(vu (gB X ((4*i)+1)))) (fun _=>jN (u32N (IR (gV _ _) dC)))<|cB (a:=fun r=>(vu (gB X ((4*i)+1)))) (b:=fun r=>(rP 16)) (v:=fun r=>(vu (gB X ((4*i)+1)*65536))) .shl 45 (fun _ w=>Ae (k:=.u32) (yk:=.u64) (x:=gB X ((4*i)+1)) (c:=16) rfl (by have:=gV X ((4*i)+1);show _*65536<4294967296;omega) (fun _=>by decide) w)<|cA (v:=fun r=>(cO (bits .or .u32 (gB X (4*i)*16777216:Int) (gB X ((4*i)+1)*65536:Int)))) (fun _=>(vu ((gB X (4*i)*256+gB X ((4*i)+1))*65536))) (fun _=>jN (or_w1 (gV _ _) (gV _ _)))<|jY 1<|oD (nG 4 i om)<|oD (bF (4*i) 2 om)<|pI (II 113 (bG r1 0) (vn ((4*i)+2))) (sF r1 0 (4*i) 2) (bK (n:=(((4*i)+2:Nat):Int)) (i:=(4*i)+2) underlying113 sizeOf5 om)<|uP 0 5 (nb r1 0) ((4*i)+2) ((bs X).toArray) 113 (kH X ((4*i)+2)) isAgg5 (H5 (by rw [hX];omega))<|cA (v:=fun r=>(cO (Jf.wrap (gB X ((4*i)+2):Int)))) (fun _=>(vu (gB X ((4*i)+2)))) (fun _=>jN (u32N (IR (gV _ _) dC)))<|cB (a:=fun r=>(vu (gB X ((4*i)+2)))) (b:=fun r=>(rP 8)) (v:=fun r=>(vu (gB X ((4*i)+2)*256))) .shl 45 (fun _ w=>Ae (k:=.u32) (yk:=.u64) (x:=gB X ((4*i)+2)) (c:=8) rfl (by have:=gV X ((4*i)+2);show _*256<4294967296;omega) (fun _=>by decide) w)<|cA (v:=fun r=>(cO (bits .or .u32 (((gB X (4*i)*256+gB X ((4*i)+1))*65536:Nat):Int) (gB X ((4*i)+2)*256:Int)))) (fun _=>(vu (((gB X (4*i)*256+gB X ((4*i)+1))*256+gB X ((4*i)+2))*256))) (fun _=>jN (or_w2 (gV _ _) (gV _ _) (gV _ _)))<|jY 1<|oD (nG 4 i om)<|oD (bF (4*i) 3 om)<|pI (II 113 (bG r1 0) (vn ((4*i)+3))) (sF r1 0 (4*i) 3) (bK (n:=(((4*i)+3:Nat):Int)) (i:=(4*i)+3) underlying113 sizeOf5 om)<|uP 0 5 (nb r1 0) ((4*i)+3) ((bs X).toArray) 113 (kH X ((4*i)+3)) isAgg5 (H5 (by rw [hX];omega))<|cA (v:=fun r=>(cO (Jf.wrap (gB X ((4*i)+3):Int)))) (fun _=>(vu (gB X ((4*i)+3)))) (fun _=>jN (u32N (IR (gV _ _) dC)))<|eU (vu (word X i)) (jN or_w3)<|pI (II 145 (bG r2 0) (vn i)) (bH r2 0 i) (bK (n:=(i:Int)) (i:=i) underlying145 sizeOf45 om)<|CW 2 45 (nb r2 0) i C (C.setIfInBounds i (vu (word X i))) 145 (vu (word X i)) sizeOf45 (by rw [hC,nH];omega) rfl<|cN) (aH (aA (lV f108 3 [1,2,3,4] [] [vn i,vn (i+1),vn (i+1)] [] (jY 1<|oD (bF i 1 om)<|jX 1) (?_))))))))
  exact mN (i+1,C.setIfInBounds i (vu (word X i))) (by show 16-(i+1)<16-i;omega) (⟨om,by rw [hC];exact sc_word⟩) []
 rw [h1]
 have:=yF h1
 refine bC (aF (aF (aO (aA (aC (jM f108 1 [2,3,5] [0,1,1] [vi 16] [[]] (aJ ?_)))))))
 refine oL (σ:=Nat × (Array JR)) (fun ⟨k,_⟩=>[(2,(bG r1 1)),(3,(bG r2 0)),(5,(vn k))]) (fun ⟨_,C3⟩=>[(nb r1 1,(cL (gY .u32 64 (fun _=>0)) 145)),(nb r2 0,(cL C3 145))]) (fun ⟨k,_⟩=>64-k)
  (fun ⟨k,C3⟩=>(16<=k/\k<=64)/\(C3=gY .u32 64 (tc X k))) (16,C) (⟨by decide,hC.trans (by rw [show i=16 by omega];exact sc_tc X)⟩) [] ?_
 rintro ⟨k,C3⟩ ⟨hk,hC3⟩
 refine aC (jJ f108 2 [2,3,5,44] [vn k,.bool (decide ((k:Int)<64))] (oC (decide ((k:Int)<64)) (fun h2=>?_) (fun h2=>?_)))
 ·rw [h2]
  have:=yT h2
  refine aI (aA (aC (aJ (Au f108 [0,1,3,7,15,0,32,96,224,511,1023,0,2048,6144,14336,30720,65535,131071] 18 [2,3,5,6] [] (let qa:=vu (((aP (wN X (k-15)) 7)^^^(aP (wN X (k-15)) 18))^^^((wN X (k-15)) / 2^3));let qb:=vi ((k:Int)-15);[vn k,qb,o5 r2 0 k 15,qV X k 15,zG X k 15 7,vn k,qb,o5 r2 0 k 15,qV X k 15,zG X k 15 18,Fz (wN X (k-15)) 7 18,vn k,qb,o5 r2 0 k 15,qV X k 15,vu ((wN X (k-15)) / 2^3),qa,qa]) [] (jY 1<|FC ((k:Int)-15) om<|pI (II 145 (bG r2 0) (pV k 15)) (o5 r2 0 k 15) (bK (n:=(k:Int)-15) (i:=k-15) underlying145 sizeOf45 om)<|uP 1 45 (nb r2 0) (k-15) C3 145 (qV X k 15) isAgg45 (by rw [hC3];exact vN om om)<|cC (f:=110) (args:=fun r=> #[qV X k 15,vi 7]) (v:=fun r=>(zG X k 15 7)) (fun _ w=>(fun w=>sZ (wN X (k-15)) 7 (o6 _ _) dC w) w)<|jY 1<|FC ((k:Int)-15) om<|pI (II 145 (bG r2 0) (pV k 15)) (o5 r2 0 k 15) (bK (n:=(k:Int)-15) (i:=k-15) underlying145 sizeOf45 om)<|uP 1 45 (nb r2 0) (k-15) C3 145 (qV X k 15) isAgg45 (by rw [hC3];exact vN om om)<|cC (f:=110) (args:=fun r=> #[qV X k 15,vi 18]) (v:=fun r=>(zG X k 15 18)) (fun _ w=>(fun w=>sZ (wN X (k-15)) 18 (o6 _ _) dC w) w)<|cA (v:=fun r=>(cO (bits .xor .u32 (aP (wN X (k-15)) 7:Int) (aP (wN X (k-15)) 18:Int)))) (fun _=>(Fz (wN X (k-15)) 7 18)) (fun _=>jN (vC (fF _ (o6 _ _)) (fF _ (o6 _ _))))<|jY 1<|FC ((k:Int)-15) om<|pI (II 145 (bG r2 0) (pV k 15)) (o5 r2 0 k 15) (bK (n:=(k:Int)-15) (i:=k-15) underlying145 sizeOf45 om)<|uP 1 45 (nb r2 0) (k-15) C3 145 (qV X k 15) isAgg45 (by rw [hC3];exact vN om om)<|cB (a:=fun r=>(qV X k 15)) (b:=fun r=>(rP 3)) (v:=fun r=>(vu ((wN X (k-15)) / 2^3))) .shr 45 (fun _ w=>pM (k:=.u32) (x:=(wN X (k-15))) (c:=3) (o6 _ _) w)<|cA (v:=fun r=>(cO (bits .xor .u32 (((aP (wN X (k-15)) 7)^^^(aP (wN X (k-15)) 18):Nat):Int) (((wN X (k-15)) / 2^3:Nat):Int)))) (fun _=>(qy96 X k)) (fun _=>jN (vC (vP (fF _ (o6 _ _)) (fF _ (o6 _ _))) (BQ _ (o6 _ _))))<|jX 1) (Au f108 [0,1,3,7,15,0,32,96,224,511,1023,0,2048,6144,14336,30720,65535,131071] 18 [2,3,5,6,7] [] (let qa:=vu (((aP (wN X (k-2)) 17)^^^(aP (wN X (k-2)) 19))^^^((wN X (k-2)) / 2^10));let qb:=vi ((k:Int)-2);[vn k,qb,o5 r2 0 k 2,qV X k 2,zG X k 2 17,vn k,qb,o5 r2 0 k 2,qV X k 2,zG X k 2 19,Fz (wN X (k-2)) 17 19,vn k,qb,o5 r2 0 k 2,qV X k 2,vu ((wN X (k-2)) / 2^10),qa,qa]) [] (jY 1<|FC ((k:Int)-2) om<|pI (II 145 (bG r2 0) (pV k 2)) (o5 r2 0 k 2) (bK (n:=(k:Int)-2) (i:=k-2) underlying145 sizeOf45 om)<|uP 1 45 (nb r2 0) (k-2) C3 145 (qV X k 2) isAgg45 (by rw [hC3];exact vN om om)<|cC (f:=110) (args:=fun r=> #[qV X k 2,vi 17]) (v:=fun r=>(zG X k 2 17)) (fun _ w=>(fun w=>sZ (wN X (k-2)) 17 (o6 _ _) dC w) w)<|jY 1<|FC ((k:Int)-2) om<|pI (II 145 (bG r2 0) (pV k 2)) (o5 r2 0 k 2) (bK (n:=(k:Int)-2) (i:=k-2) underlying145 sizeOf45 om)<|uP 1 45 (nb r2 0) (k-2) C3 145 (qV X k 2) isAgg45 (by rw [hC3];exact vN om om)<|cC (f:=110) (args:=fun r=> #[qV X k 2,vi 19]) (v:=fun r=>(zG X k 2 19)) (fun _ w=>(fun w=>sZ (wN X (k-2)) 19 (o6 _ _) dC w) w)<|cA (v:=fun r=>(cO (bits .xor .u32 (aP (wN X (k-2)) 17:Int) (aP (wN X (k-2)) 19:Int)))) (fun _=>(Fz (wN X (k-2)) 17 19)) (fun _=>jN (vC (fF _ (o6 _ _)) (fF _ (o6 _ _))))<|jY 1<|FC ((k:Int)-2) om<|pI (II 145 (bG r2 0) (pV k 2)) (o5 r2 0 k 2) (bK (n:=(k:Int)-2) (i:=k-2) underlying145 sizeOf45 om)<|uP 1 45 (nb r2 0) (k-2) C3 145 (qV X k 2) isAgg45 (by rw [hC3];exact vN om om)<|cB (a:=fun r=>(qV X k 2)) (b:=fun r=>(rP 10)) (v:=fun r=>(vu ((wN X (k-2)) / 2^10))) .shr 45 (fun _ w=>pM (k:=.u32) (x:=(wN X (k-2))) (c:=10) (o6 _ _) w)<|cA (v:=fun r=>(cO (bits .xor .u32 (((aP (wN X (k-2)) 17)^^^(aP (wN X (k-2)) 19):Nat):Int) (((wN X (k-2)) / 2^10:Nat):Int)))) (fun _=>(qy110 X k)) (fun _=>jN (vC (vP (fF _ (o6 _ _)) (fF _ (o6 _ _))) (BQ _ (o6 _ _))))<|jX 1) (rDc f108 [0,0,2,6,14,0,62,0,128,384,896,2046,0,8190,16383,32767] 16 [2,3,5] [] (let qa:=bJ (wN X (k-16)) (((aP (wN X (k-15)) 7)^^^(aP (wN X (k-15)) 18))^^^((wN X (k-15)) / 2^3));[vn k,vn k,pV k 16,o5 r2 0 k 16,qV X k 16,qy96 X k,vu qa,vn k,pV k 7,o5 r2 0 k 7,qV X k 7,fC qa (wN X (k-7)),qy110 X k,fC (bJ qa (wN X (k-7))) (((aP (wN X (k-2)) 17)^^^(aP (wN X (k-2)) 19))^^^((wN X (k-2)) / 2^10)),bH r2 0 k,JQ]) [(15,(jD 1 r2 0 (C3.setIfInBounds k (qy12 X k (aP (wN X (k-15)) 7) (aP (wN X (k-15)) 18) (wN X (k-15)) (k-2))) 145))] (jY 2<|FC ((k:Int)-16) om<|pI (II 145 (bG r2 0) (pV k 16)) (o5 r2 0 k 16) (bK (n:=(k:Int)-16) (i:=k-16) underlying145 sizeOf45 om)<|uP 1 45 (nb r2 0) (k-16) C3 145 (qV X k 16) isAgg45 (by rw [hC3];exact vN om om)<|jY 1<|eU (fC (wN X (k-16)) (((aP (wN X (k-15)) 7)^^^(aP (wN X (k-15)) 18))^^^((wN X (k-15)) / 2^3))) (jN (dG (wN X (k-16)) (((aP (wN X (k-15)) 7)^^^(aP (wN X (k-15)) 18))^^^((wN X (k-15)) / 2^3))))<|jY 1<|FC ((k:Int)-7) om<|pI (II 145 (bG r2 0) (pV k 7)) (o5 r2 0 k 7) (bK (n:=(k:Int)-7) (i:=k-7) underlying145 sizeOf45 om)<|uP 1 45 (nb r2 0) (k-7) C3 145 (qV X k 7) isAgg45 (by rw [hC3];exact vN om om)<|eU (fC (bJ (wN X (k-16)) (((aP (wN X (k-15)) 7)^^^(aP (wN X (k-15)) 18))^^^((wN X (k-15)) / 2^3))) (wN X (k-7))) (jN (dG (bJ (wN X (k-16)) (((aP (wN X (k-15)) 7)^^^(aP (wN X (k-15)) 18))^^^((wN X (k-15)) / 2^3))) (wN X (k-7))))<|jY 1<|eU (qy12 X k (aP (wN X (k-15)) 7) (aP (wN X (k-15)) 18) (wN X (k-15)) (k-2)) (jN (dG (bJ (bJ (wN X (k-16)) (((aP (wN X (k-15)) 7)^^^(aP (wN X (k-15)) 18))^^^((wN X (k-15)) / 2^3))) (wN X (k-7))) (((aP (wN X (k-2)) 17)^^^(aP (wN X (k-2)) 19))^^^((wN X (k-2)) / 2^10))))<|pI (II 145 (bG r2 0) (vn k)) (bH r2 0 k) (bK (n:=(k:Int)) (i:=k) underlying145 sizeOf45 om)<|CW 1 45 (nb r2 0) k C3 (C3.setIfInBounds k (qy12 X k (aP (wN X (k-15)) 7) (aP (wN X (k-15)) 18) (wN X (k-15)) (k-2))) 145 (qy12 X k (aP (wN X (k-15)) 7) (aP (wN X (k-15)) 18) (wN X (k-15)) (k-2)) sizeOf45 (by rw [hC3,nH];omega) rfl<|cN) (aH (aA (lV f108 3 [2,3,5] [] [vn k,vn (k+1),vn (k+1)] [] (jY 1<|oD (bF k 1 om)<|jX 1) (?_))))))))))
  exact mN (k+1,C3.setIfInBounds k (qy12 X k (aP (wN X (k-15)) 7) (aP (wN X (k-15)) 18) (wN X (k-15)) (k-2))) (by show 64-(k+1)<64-k;omega) (⟨om,by rw [hC3];exact tc_set (wN_more hk.1).symm⟩) []
 rw [h2]
 refine bC (aF (aF (aO ?_)))
 rw [hC3]
 refine aA (aY f108 2 [2] [1,0] [qy163 (tc X k),JQ] [(1,(jD 0 r1 1 (gY .u32 64 (tc X k)) 145))] (jE [[1],[0]]) (aG ?_))
 exact mR (v:=(qy163 (tc X k))) (fun _ hS=>⟨congrArg IJ (congrArg JL (tc_end (oA (yF h2)))),hS.dM⟩)
abbrev lS:=fun p0 p1=>[(1,(mQ 0 p0 p1))]
theorem rconst_any  (w0:JS):Calls prog 109 #[] w0 (jR (bW (gY .u32 64 kN)) w0):=by
 refine Calls.cW 2 (fun _=>True) func109 rfl rfl rfl jT (sS f109 1 [0] [] (fun r=>[bG r 0]) (fun r=>[(0,(nw r 0 (cL (gY .u32 64 (fun _=>0)) 145)))]) (jX 1) (fun r1=>aY f109 2 [0] [] [.agg #[cO 1116352408,cO 1899447441,cO 3049323471,cO 3921009573,cO 961987163,cO 1508970993,cO 2453635748,cO 2870763221,cO 3624381080,cO 310598401,cO 607225278,cO 1426881987,cO 1925078388,cO 2162078206,cO 2614888103,cO 3248222580,cO 3835390401,cO 4022224774,cO 264347078,cO 604807628,cO 770255983,cO 1249150122,cO 1555081692,cO 1996064986,cO 2554220882,cO 2821834349,cO 2952996808,cO 3210313671,cO 3336571891,cO 3584528711,cO 113926993,cO 338241895,cO 666307205,cO 773529912,cO 1294757372,cO 1396182291,cO 1695183700,cO 1986661051,cO 2177026350,cO 2456956037,cO 2730485921,cO 2820302411,cO 3259730800,cO 3345764771,cO 3516065817,cO 3600352804,cO 4094571909,cO 275423344,cO 430227734,cO 506948616,cO 659060556,cO 883997877,cO 958139571,cO 1322822218,cO 1537002063,cO 1747873779,cO 1955562222,cO 2024104815,cO 2227730452,cO 2361852424,cO 2428436474,cO 2756734187,cO 3204031479,cO 3329325298],JQ] (lS (nb r1 0) (cL #[cO 1116352408,cO 1899447441,cO 3049323471,cO 3921009573,cO 961987163,cO 1508970993,cO 2453635748,cO 2870763221,cO 3624381080,cO 310598401,cO 607225278,cO 1426881987,cO 1925078388,cO 2162078206,cO 2614888103,cO 3248222580,cO 3835390401,cO 4022224774,cO 264347078,cO 604807628,cO 770255983,cO 1249150122,cO 1555081692,cO 1996064986,cO 2554220882,cO 2821834349,cO 2952996808,cO 3210313671,cO 3336571891,cO 3584528711,cO 113926993,cO 338241895,cO 666307205,cO 773529912,cO 1294757372,cO 1396182291,cO 1695183700,cO 1986661051,cO 2177026350,cO 2456956037,cO 2730485921,cO 2820302411,cO 3259730800,cO 3345764771,cO 3516065817,cO 3600352804,cO 4094571909,cO 275423344,cO 430227734,cO 506948616,cO 659060556,cO 883997877,cO 958139571,cO 1322822218,cO 1537002063,cO 1747873779,cO 1955562222,cO 2024104815,cO 2227730452,cO 2361852424,cO 2428436474,cO 2756734187,cO 3204031479,cO 3329325298] 145)) (jE [[],[0]]) (aG ?_)))
 exact mR (v:=(.agg #[cO 1116352408,cO 1899447441,cO 3049323471,cO 3921009573,cO 961987163,cO 1508970993,cO 2453635748,cO 2870763221,cO 3624381080,cO 310598401,cO 607225278,cO 1426881987,cO 1925078388,cO 2162078206,cO 2614888103,cO 3248222580,cO 3835390401,cO 4022224774,cO 264347078,cO 604807628,cO 770255983,cO 1249150122,cO 1555081692,cO 1996064986,cO 2554220882,cO 2821834349,cO 2952996808,cO 3210313671,cO 3336571891,cO 3584528711,cO 113926993,cO 338241895,cO 666307205,cO 773529912,cO 1294757372,cO 1396182291,cO 1695183700,cO 1986661051,cO 2177026350,cO 2456956037,cO 2730485921,cO 2820302411,cO 3259730800,cO 3345764771,cO 3516065817,cO 3600352804,cO 4094571909,cO 275423344,cO 430227734,cO 506948616,cO 659060556,cO 883997877,cO 958139571,cO 1322822218,cO 1537002063,cO 1747873779,cO 1955562222,cO 2024104815,cO 2227730452,cO 2361852424,cO 2428436474,cO 2756734187,cO 3204031479,cO 3329325298])) (fun _ hS=>⟨by kernel_rfl,hS.dM⟩)
theorem rcompress_any (s0:Nat) (s1:Nat) (s2:Nat) (s3:Nat) (s4:Nat) (s5:Nat) (s6:Nat) (s7:Nat) (X:LU) (hs:ok8 (s0,s1,s2,s3,s4,s5,s6,s7)) (hX:X.length=64) (w0:JS):Calls prog 80 #[.agg #[vu s0,vu s1,vu s2,vu s3,vu s4,vu s5,vu s6,vu s7],.agg (bs X).toArray] w0 (jR (.agg #[vu ((oQ (s0,s1,s2,s3,s4,s5,s6,s7) X).1),vu ((oQ (s0,s1,s2,s3,s4,s5,s6,s7) X).2.1),vu ((oQ (s0,s1,s2,s3,s4,s5,s6,s7) X).2.2.1),vu ((oQ (s0,s1,s2,s3,s4,s5,s6,s7) X).2.2.2.1),vu ((oQ (s0,s1,s2,s3,s4,s5,s6,s7) X).2.2.2.2.1),vu ((oQ (s0,s1,s2,s3,s4,s5,s6,s7) X).2.2.2.2.2.1),vu ((oQ (s0,s1,s2,s3,s4,s5,s6,s7) X).2.2.2.2.2.2.1),vu ((oQ (s0,s1,s2,s3,s4,s5,s6,s7) X).2.2.2.2.2.2.2)]) w0):=by
 refine Calls.cW 133 (fun _=>True) func80 rfl rfl rfl jT (sS f80 3 [2,3,4] [] (fun r=>[bG r 0,bG r 1,bG r 2]) (fun r=>[(0,(nw r 0 (cL #[vu s0,vu s1,vu s2,vu s3,vu s4,vu s5,vu s6,vu s7] 111))),(1,(nw r 1 (DF X))),(2,(nw r 2 qy122))]) (jX 3) (fun r1=>sS f80 7 [2,4,5,6] [1,0,1,1,1] (fun r=>[H7 X,qy163 (wN X),bW (gY .u32 64 kN),bG r 3,bG r 4,JQ,JQ]) (fun r=>[(3,(nw r 3 (cL (gY .u32 64 (fun _=>0)) 145))),(4,(nw r 4 (cL (gY .u32 64 (fun _=>0)) 145))),(5,(jD 27 r 3 (gY .u32 64 (wN X)) 145)),(6,(jD 35 r 4 (gY .u32 64 kN) 145))]) (nM (fun hG=>Eo isAgg113 sizeOf113 (hG.kn (g:=nb r1 1) (o:=(DF X)) 1) (by simp [bs,hX]))<|oO (rsched_any X hX)<|oO rconst_any<|jE [[],[],[27],[35]]) (fun r2=>Au f80 [0,1,0,4,0,16,0,64,0,256,0,1024,0,4096,0,16384,3,65551,196671,459007,984063,2035711,4145151,8388607] 24 [2,4,5,6,7,8,9,10,11,12,13,14] [] [bG r1 0,vu s0,bH r1 0 1,vu s1,bH r1 0 2,vu s2,bH r1 0 3,vu s3,bH r1 0 4,vu s4,bH r1 0 5,vu s5,bH r1 0 6,vu s6,bH r1 0 7,vu s7,vu s0,vu s1,vu s2,vu s3,vu s4,vu s5,vu s6,vu s7] [] (jE [[],[0],[],[0],[],[0],[],[0],[],[0],[],[0],[],[0],[],[0],[],[],[],[],[],[],[],[]]) (aC (jJ f80 1 [2,4,5,6,7,8,9,10,11,12,13,14,15] [vi 0] (aJ ?_))))))
 refine oL (σ:=Nat × Nat × Nat × Nat × Nat × Nat × Nat × Nat × Nat) (fun ⟨i,ra,rb,rc,rd,re,rf,rg,rh⟩=>[(2,(bG r1 0)),(4,(bG r1 2)),(5,(bG r2 3)),(6,(bG r2 4)),(7,(vu ra)),(8,(vu rb)),(9,(vu rc)),(10,(vu rd)),(11,(vu re)),(12,(vu rf)),(13,(vu rg)),(14,(vu rh)),(15,(vn i))]) (fun ⟨_,_,_,_,_,_,_,_,_⟩=>[(nb r1 0,(cL #[vu s0,vu s1,vu s2,vu s3,vu s4,vu s5,vu s6,vu s7] 111)),(nb r1 2,qy122),(nb r2 3,(cL (gY .u32 64 (wN X)) 145)),(nb r2 4,(cL (gY .u32 64 kN) 145))]) (fun ⟨i,_,_,_,_,_,_,_,_⟩=>64-i)
  (fun ⟨i,ra,rb,rc,rd,re,rf,rg,rh⟩=>(i<=64)/\(rnds X (s0,s1,s2,s3,s4,s5,s6,s7) i=(ra,rb,rc,rd,re,rf,rg,rh))) (0,s0,s1,s2,s3,s4,s5,s6,s7) (⟨by decide,rfl⟩) [] ?_
 rintro ⟨i,ra,rb,rc,rd,re,rf,rg,rh⟩ ⟨hi,hr⟩
 have ho:ok8 (ra,rb,rc,rd,re,rf,rg,rh):=hr ▸ rnds_ok hs i
 refine aC (jJ f80 2 [2,4,5,6,7,8,9,10,11,12,13,14,15,38] [vn i,.bool (decide ((i:Int)<64))] (oC (decide ((i:Int)<64)) (fun b1=>?_) (fun b1=>?_)))
 ·rw [b1]
  have:=yT b1
  refine aI (aA (aC (aJ (Au f80 [0,0,2,0,14,30,0,94,254,511,0,0,3072,0,8192,0,57344,130048,262143,0,524288,1572864,4194303,0,8388608,25165824,67108863,134217727] 28 [2,4,5,6,7,8,9,10,11,12,13,14,15,16] [] (let qa:=bJ (bJ rh (((aP re 6)^^^(aP re 11))^^^(aP re 25))) ((re&&&rf)^^^((kW re)&&&rg));let qb:=vu (bJ (bJ qa (kN i)) (wN X i));[vu rh,vu re,Dy re 6,vu re,Dy re 11,Fz re 6 11,vu re,Dy re 25,qy90 re 6 11 25,fC rh (((aP re 6)^^^(aP re 11))^^^(aP re 25)),vu re,vu rf,vu (re&&&rf),vu re,vu (kW re),vu rg,vu ((kW re)&&&rg),vu ((re&&&rf)^^^((kW re)&&&rg)),vu qa,vn i,bH r2 4 i,vu (kN i),fC qa (kN i),vn i,bH r2 3 i,vu (wN X i),qb,qb]) [] (jY 2<|oO (sZ re 6 ho.2.2.2.2.1 dC)<|jY 1<|oO (sZ re 11 ho.2.2.2.2.1 dC)<|cA (v:=fun r=>(cO (bits .xor .u32 (aP re 6:Int) (aP re 11:Int)))) (fun _=>(Fz re 6 11)) (fun _=>jN (vC (fF _ ho.2.2.2.2.1) (fF _ ho.2.2.2.2.1)))<|jY 1<|oO (sZ re 25 ho.2.2.2.2.1 dC)<|cA (v:=fun r=>(cO (bits .xor .u32 (((aP re 6)^^^(aP re 11):Nat):Int) (aP re 25:Int)))) (fun _=>(qy90 re 6 11 25)) (fun _=>jN (vC (vP (fF _ ho.2.2.2.2.1) (fF _ ho.2.2.2.2.1)) (fF _ ho.2.2.2.2.1)))<|eU (fC rh (((aP re 6)^^^(aP re 11))^^^(aP re 25))) (jN (dG rh (((aP re 6)^^^(aP re 11))^^^(aP re 25))))<|jY 2<|eU (vu (re&&&rf)) (jN (FD ho.2.2.2.2.1 ho.2.2.2.2.2.1))<|jY 1<|eU (vu (kW re)) (jN (not_xor32 ho.2.2.2.2.1))<|jY 1<|cA (v:=fun r=>(cO (bits .and .u32 ((kW re:Nat):Int) (rg:Int)))) (fun _=>(vu ((kW re)&&&rg))) (fun _=>jN (FD (IC _) ho.2.2.2.2.2.2.1))<|cA (v:=fun r=>(cO (bits .xor .u32 ((re&&&rf:Nat):Int) (((kW re)&&&rg:Nat):Int)))) (fun _=>(vu ((re&&&rf)^^^((kW re)&&&rg)))) (fun _=>jN (vC (qU _ ho.2.2.2.2.1) (qU _ (IC _))))<|eU (fC (bJ rh (((aP re 6)^^^(aP re 11))^^^(aP re 25))) ((re&&&rf)^^^((kW re)&&&rg))) (jN (dG (bJ rh (((aP re 6)^^^(aP re 11))^^^(aP re 25))) ((re&&&rf)^^^((kW re)&&&rg))))<|jY 1<|pI (II 145 (bG r2 4) (vn i)) (bH r2 4 i) (bK (n:=(i:Int)) (i:=i) underlying145 sizeOf45 om)<|uP 3 45 (nb r2 4) i (gY .u32 64 kN) 145 (vu (kN i)) isAgg45 (kC_get om)<|eU (fC (bJ (bJ rh (((aP re 6)^^^(aP re 11))^^^(aP re 25))) ((re&&&rf)^^^((kW re)&&&rg))) (kN i)) (jN (dG (bJ (bJ rh (((aP re 6)^^^(aP re 11))^^^(aP re 25))) ((re&&&rf)^^^((kW re)&&&rg))) (kN i)))<|jY 1<|pI (II 145 (bG r2 3) (vn i)) (bH r2 3 i) (bK (n:=(i:Int)) (i:=i) underlying145 sizeOf45 om)<|uP 2 45 (nb r2 3) i (gY .u32 64 (wN X)) 145 (vu (wN X i)) isAgg45 (AL om)<|eU (fC (bJ (bJ (bJ rh (((aP re 6)^^^(aP re 11))^^^(aP re 25))) ((re&&&rf)^^^((kW re)&&&rg))) (kN i)) (wN X i)) (jN (dG (bJ (bJ (bJ rh (((aP re 6)^^^(aP re 11))^^^(aP re 25))) ((re&&&rf)^^^((kW re)&&&rg))) (kN i)) (wN X i)))<|jX 1) (aY f80 21 [2,4,5,6,7,8,9,10,11,12,13,14,15,16,17] [] (let qa:=vu (bJ (((aP ra 2)^^^(aP ra 13))^^^(aP ra 22)) (((ra&&&rb)^^^(ra&&&rc))^^^(rb&&&rc)));[vu ra,Dy ra 2,vu ra,Dy ra 13,Fz ra 2 13,vu ra,Dy ra 22,qy90 ra 2 13 22,vu ra,vu rb,vu (ra&&&rb),vu ra,vu rc,vu (ra&&&rc),vu ((ra&&&rb)^^^(ra&&&rc)),vu rb,vu rc,vu (rb&&&rc),qy203 ra rb rc,qa,qa]) [] (jY 1<|oO (sZ ra 2 ho.1 dC)<|jY 1<|oO (sZ ra 13 ho.1 dC)<|cA (v:=fun r=>(cO (bits .xor .u32 (aP ra 2:Int) (aP ra 13:Int)))) (fun _=>(Fz ra 2 13)) (fun _=>jN (vC (fF _ ho.1) (fF _ ho.1)))<|jY 1<|oO (sZ ra 22 ho.1 dC)<|cA (v:=fun r=>(cO (bits .xor .u32 (((aP ra 2)^^^(aP ra 13):Nat):Int) (aP ra 22:Int)))) (fun _=>(qy90 ra 2 13 22)) (fun _=>jN (vC (vP (fF _ ho.1) (fF _ ho.1)) (fF _ ho.1)))<|jY 2<|eU (vu (ra&&&rb)) (jN (FD ho.1 ho.2.1))<|jY 2<|eU (vu (ra&&&rc)) (jN (FD ho.1 ho.2.2.1))<|cA (v:=fun r=>(cO (bits .xor .u32 ((ra&&&rb:Nat):Int) ((ra&&&rc:Nat):Int)))) (fun _=>(vu ((ra&&&rb)^^^(ra&&&rc)))) (fun _=>jN (vC (qU _ ho.1) (qU _ ho.1)))<|jY 2<|eU (vu (rb&&&rc)) (jN (FD ho.2.1 ho.2.2.1))<|cA (v:=fun r=>(cO (bits .xor .u32 (((ra&&&rb)^^^(ra&&&rc):Nat):Int) ((rb&&&rc:Nat):Int)))) (fun _=>(qy203 ra rb rc)) (fun _=>jN (vC (vP (qU _ ho.1) (qU _ ho.1)) (qU _ ho.2.1)))<|eU (fC (((aP ra 2)^^^(aP ra 13))^^^(aP ra 22)) (((ra&&&rb)^^^(ra&&&rc))^^^(rb&&&rc))) (jN (dG (((aP ra 2)^^^(aP ra 13))^^^(aP ra 22)) (((ra&&&rb)^^^(ra&&&rc))^^^(rb&&&rc))))<|jX 1) (lV f80 20 [2,4,5,6,7,8,9,10,11,12,13,14,15] [] (let qa:=bJ (bJ (bJ (bJ rh (((aP re 6)^^^(aP re 11))^^^(aP re 25))) ((re&&&rf)^^^((kW re)&&&rg))) (kN i)) (wN X i);let qb:=bJ (((aP ra 2)^^^(aP ra 13))^^^(aP ra 22)) (((ra&&&rb)^^^(ra&&&rc))^^^(rb&&&rc));[vu rg,vu rf,vu re,vu rd,vu qa,fC rd qa,vu rc,vu rb,vu ra,vu qa,vu qb,fC qa qb,vu rg,vu rf,vu re,fC rd qa,vu rc,vu rb,vu ra,fC qa qb]) [] (jY 5<|eU (fC rd (bJ (bJ (bJ (bJ rh (((aP re 6)^^^(aP re 11))^^^(aP re 25))) ((re&&&rf)^^^((kW re)&&&rg))) (kN i)) (wN X i))) (jN (dG rd (bJ (bJ (bJ (bJ rh (((aP re 6)^^^(aP re 11))^^^(aP re 25))) ((re&&&rf)^^^((kW re)&&&rg))) (kN i)) (wN X i))))<|jY 5<|eU (fC (bJ (bJ (bJ (bJ rh (((aP re 6)^^^(aP re 11))^^^(aP re 25))) ((re&&&rf)^^^((kW re)&&&rg))) (kN i)) (wN X i)) (bJ (((aP ra 2)^^^(aP ra 13))^^^(aP ra 22)) (((ra&&&rb)^^^(ra&&&rc))^^^(rb&&&rc)))) (jN (dG (bJ (bJ (bJ (bJ rh (((aP re 6)^^^(aP re 11))^^^(aP re 25))) ((re&&&rf)^^^((kW re)&&&rg))) (kN i)) (wN X i)) (bJ (((aP ra 2)^^^(aP ra 13))^^^(aP ra 22)) (((ra&&&rb)^^^(ra&&&rc))^^^(rb&&&rc)))))<|jX 8) (aH (aA (lV f80 3 [2,4,5,6,7,8,9,10,11,12,13,14,15] [] [vn i,vn (i+1),vn (i+1)] [] (jY 1<|oD (bF i 1 om)<|jX 1) (?_))))))))))
  exact mN (i+1,bJ (bJ (bJ (bJ (bJ rh (((aP re 6)^^^(aP re 11))^^^(aP re 25))) ((re&&&rf)^^^((kW re)&&&rg))) (kN i)) (wN X i)) (bJ (((aP ra 2)^^^(aP ra 13))^^^(aP ra 22)) (((ra&&&rb)^^^(ra&&&rc))^^^(rb&&&rc))),ra,rb,rc,bJ rd (bJ (bJ (bJ (bJ rh (((aP re 6)^^^(aP re 11))^^^(aP re 25))) ((re&&&rf)^^^((kW re)&&&rg))) (kN i)) (wN X i)),re,rf,rg) (by show 64-(i+1)<64-i;omega) (⟨om,rnds_next hr⟩) []
 rw [b1]
 refine bC (aF (aF (aO (aA (aY f80 34 [4] [0,1,0,0] [bG r1 0,vu s0,vu ra,fC s0 ra,bH r1 0 1,vu s1,vu rb,fC s1 rb,bH r1 0 2,vu s2,vu rc,fC s2 rc,bH r1 0 3,vu s3,vu rd,fC s3 rd,bH r1 0 4,vu s4,vu re,fC s4 re,bH r1 0 5,vu s5,vu rf,fC s5 rf,bH r1 0 6,vu s6,vu rg,fC s6 rg,bH r1 0 7,vu s7,vu rh,fC s7 rh,.agg #[fC s0 ra,fC s1 rb,fC s2 rc,fC s3 rd,fC s4 re,fC s5 rf,fC s6 rg,fC s7 rh],JQ] [(33,(mQ 1 (nb r1 2) (cL #[fC s0 ra,fC s1 rb,fC s2 rc,fC s3 rd,fC s4 re,fC s5 rf,fC s6 rg,fC s7 rh] 111)))] (cR nS<|eU (fC s0 ra) (jN (dG s0 ra))<|cR nS<|eU (fC s1 rb) (jN (dG s1 rb))<|cR nS<|eU (fC s2 rc) (jN (dG s2 rc))<|cR nS<|eU (fC s3 rd) (jN (dG s3 rd))<|cR nS<|eU (fC s4 re) (jN (dG s4 re))<|cR nS<|eU (fC s5 rf) (jN (dG s5 rf))<|cR nS<|eU (fC s6 rg) (jN (dG s6 rg))<|cR nS<|eU (fC s7 rh) (jN (dG s7 rh))<|jE [[],[1]]) (aG ?_))))))
 exact mR (v:=(.agg #[fC s0 ra,fC s1 rb,fC s2 rc,fC s3 rd,fC s4 re,fC s5 rf,fC s6 rg,fC s7 rh])) (fun _ hS=>⟨congrArg IJ (by rw [cmp_end hr (show i=64 by have:=yF b1;omega)]),hS.dM⟩)
theorem rinitial_any  (w0:JS):Calls prog 79 #[] w0 (jR qy34 w0):=by
 refine Calls.cW 2 (fun _=>True) func79 rfl rfl rfl jT (sS f79 1 [0] [] (fun r=>[bG r 0]) (fun r=>[(0,(nw r 0 qy122))]) (jX 1) (fun r1=>aY f79 2 [0] [] [qy34,JQ] (lS (nb r1 0) qy146) (jE [[],[0]]) (aG ?_)))
 exact mR (v:=qy34) (fun _ hS=>⟨rfl,hS.dM⟩)
end Go.Proofs.YtegagmoldjiaaaaGreatDoor
