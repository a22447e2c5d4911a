/-
  What this statement needs, part 5: the texts of it, one behind the other.
-/
import Derived.Test.YtegagmoldjiaaaaGreatDoorBase4
set_option maxRecDepth 100000
set_option linter.all false
namespace Go.Proofs.YtegagmoldjiaaaaGreatDoor
open Go Go.RowKit _root_.Go.Proofs.Tryz
open Go.Lib renaming trimPrefix→JS,hasPrefix→JU
open Go renaming undef→JO,Value→JP,World→JQ,Program→JR
open _root_.List renaming length_append→II,length_cons→IJ,length_nil→IK,length→IM,append_assoc→IR,mem_singleton→IV,length_take→IX,isPrefixOf_iff_prefix→I7,replicate→I8,append_nil→I9,mem_append→Jc,length_set→Jd,mem_cons_of_mem→Je,eq_nil_of_length_eq_zero→Jh,mem_cons_self→Ji,take_append_drop→Jl,getD_eq_getElem?_getD→Jm,take_of_length_le→Jr,length_replicate→Jt,drop_append_of_le_length→Ju,mem_or_eq_of_mem_set→Jw,getElem?_eq_getElem→JB,suffix_refl→JD,drop_eq_nil_of_le→JE,map_append→JH
open _root_.Nat renaming le_refl→IL,zero_le→Jf,le_of_eq→Jg,lt_succ_self→Jo,le_add_right→Jp,min_eq_left→JG,add_sub_cancel'→JK,le_trans→JL
open Go.Value renaming cells→IP,int→Jq
open _root_.Bool renaming noConfusion→IQ,not_false→Jn,or_true→Js
open Go.Builtin renaming zeroCells→IU,copy_→JC
open Go.Instr renaming sliceAt→IW,index→IY,storeAt→JA
open Go.Ending renaming returned→IZ
open _root_.Sum renaming inr→I4,inl→Ja
open _root_.Or renaming inr→I5,inl→Jj
open _root_.Decidable renaming byContradiction→Jb,of_not_not→JJ
open Go.Next renaming value→Jk
open Go.IntKind renaming u8→Jv,wrap_u32→JM
open Go.Result renaming andThen_ok→Jy
open Go.Lib renaming parseUintB_le→Jz
open Go.Sem renaming run_bind→JF
open _root_.Array renaming getElem?_modify→JI
variable {S W:LU} {n:Nat}
section
theorem G5 {L:LU} (h:L <:+ S):L.length<=S.length:=by grind
theorem sfx_drop {L:LU} (h:L <:+ S):S.drop (S.length-L.length)=L:=by
 obtain ⟨t,rfl⟩:=h
 rw [II,Nat.add_sub_cancel,List.drop_left]
theorem sfx_d {L:LU} (h:L <:+ S) (n:Nat):L.drop n <:+ S:=(List.drop_suffix n L).trans h
theorem mJ {L:LU} (h:L <:+ S) (W:LU):JS L W <:+ S:=by
 unfold JS;split
 ·exact sfx_d h _
 ·exact h
def qK (S L:LU):Nat:=S.length-L.length
theorem ps_drop {L:LU} (h:L <:+ S) (hn:n<=L.length):qK S L+n=qK S (L.drop n):=by
 have:=G5 h
 unfold qK
 rw [List.length_drop];omega
theorem ps_trim {L:LU} (h:L <:+ S) (hp:JU L W=true):qK S L+W.length=qK S (JS L W):=by
 have hl:=List.IsPrefix.length_le (I7.1 hp)
 unfold JS
 rw [if_pos hp];exact ps_drop h hl
theorem Hf {L:LU} (h: ¬ L.length<W.length):JU L W=decide (L.take W.length=W):=by
 unfold JU
 by_cases e:L.take W.length=W
 ·rw [decide_eq_true e, I7]
  exact ⟨L.drop _,by exact (congrArg (· ++ L.drop W.length) e.symm).trans (Jl _ _)⟩
 ·rw [decide_eq_false e]
  cases q:W.isPrefixOf L with
  | false=>rfl
  | _ =>
    obtain ⟨r,rfl⟩:=I7.1 q
    exact absurd (List.take_left) e
theorem pre_short {L:LU} (h:L.length<W.length):JU L W=false:=by
 cases q:JU L W with
 | false=>rfl
 | _ =>
   have:=List.IsPrefix.length_le (I7.1 q)
   omega
theorem kZ {L:LU} (h:L <:+ S):iU L <:+ S:=sfx_d h _
theorem yJ (L:LU):(iU L).length<=L.length:=by unfold iU;rw [List.length_drop];omega
theorem Io {L:LU} (h:jV L=true):oK (yE L)=0/\fJ (kQ (yE L))<=32/\dS (kQ (yE L))=yE L:=by
 unfold jV at h
 simp at h
 exact h
theorem cdV_t {L:LU} (h:jV L=true):o8 L=kQ (yE L):=by unfold o8;rw [if_pos h]
theorem cdV_f {L:LU} (h:jV L=false):o8 L=0:=by unfold o8;rw [h];rfl
theorem Ac (L:LU):o8 L<4294967296:=by
 cases h:jV L with
 | false=>rw [cdV_f h];decide
 | _ =>
   rw [cdV_t h]
   have h2:=(Io h).2.1
   refine Nat.lt_of_not_le (fun q=>?_)
   have h0:kQ (yE L)≠0:=om
   unfold fJ at h2
   rw [if_neg h0] at h2
   have:=(Nat.le_log2 h0 (k:=32)).2 q
   omega
def lC (n:Nat) (L:LU):Bool:=decide (2*n<=L.length)&&(decide (uhE (L.take (2*n))=0)&&decide (kU (BR (L.take (2*n)))=L.take (2*n)))
def iL (n:Nat) (L:LU):LU:=if lC n L=true then BR (L.take (2*n)) else []
def lW (n:Nat) (L:LU):LU:=if lC n L=true then L.drop (2*n) else L
theorem chO_get {L:LU} (h:lC n L=true):2*n<=L.length/\uhE (L.take (2*n))=0/\kU (BR (L.take (2*n)))=L.take (2*n):=by
 unfold lC at h
 simp at h
 exact h
theorem ch_t {L:LU} (h1:2*n<=L.length) (h2:uhE (L.take (2*n))=0) (h3:kU (BR (L.take (2*n)))=L.take (2*n)):lC n L=true/\iL n L=BR (L.take (2*n))/\lW n L=L.drop (2*n):=by
 have e:lC n L=true:=by unfold lC;simp;exact ⟨h1,h2,h3⟩
 exact ⟨e,by unfold iL;rw [if_pos e],by unfold lW;rw [if_pos e]⟩
theorem ch_f {L:LU} (h:lC n L=false):iL n L=[]/\lW n L=L:=by
 unfold iL lW;rw [h];exact ⟨rfl,rfl⟩
theorem ch_n {L:LU} (h: ¬ (2*n<=L.length/\uhE (L.take (2*n))=0/\kU (BR (L.take (2*n)))=L.take (2*n))):lC n L=false/\iL n L=[]/\lW n L=L:=by
 have e:lC n L=false:=by
  cases q:lC n L with
  | false=>rfl
  | true=>exact absurd (chO_get q) h
 exact ⟨e,ch_f e⟩
theorem qX {L:LU} (h:L <:+ S) (n:Nat):lW n L <:+ S:=by
 unfold lW;split
 ·exact sfx_d h _
 ·exact h
theorem chL_len (n:Nat) (L:LU):(lW n L).length<=L.length:=G5 (qX (JD L) n)
theorem Fh {L:LU} (h:lC n L=true):(iL n L).length=n:=by
 obtain ⟨h1,_,h3⟩:=chO_get h
 have:=congrArg IM h3
 rw [bD,IX] at this
 unfold iL;rw [if_pos h];omega
structure Cth where
 o:Bool
 k:Ky
 s:List Nat
 w:Bool
 l:LU
def cpO (L:LU):Bool:=jV L&&decide (o8 L<2147483648)
noncomputable def csN (L:LU):Nat:=Classical.choose (show ∃ n,n=(o8 L+2147483648)%4294967296 from ⟨_,rfl⟩)
theorem csN_eq (L:LU):csN L=(o8 L+2147483648)%4294967296:=Classical.choose_spec (show ∃ n,n=(o8 L+2147483648)%4294967296 from ⟨_,rfl⟩)
noncomputable def sO:Nat->Ky->List Nat->LU->Cth
 | 0,k,a,L=>⟨false,k,a,false,L⟩
 | f + 1, k, a, L =>
   if JU L [47]=false then ⟨true,k,a,false,L⟩ else
   if JU (JS L [47]) [42]=true then ⟨true,k,a,true,JS (JS L [47]) [42]⟩ else
   if JU (iU (JS L [47])) [104]=true then
    (if cpO (JS L [47])=true then sO f k (a++[csN (JS L [47])]) (JS (iU (JS L [47])) [104]) else ⟨false,k,a++[csN (JS L [47])],false,JS (iU (JS L [47])) [104]⟩)
   else if cpO (JS L [47])=true then sO f k (a++[o8 (JS L [47])]) (iU (JS L [47])) else ⟨false,k,a++[o8 (JS L [47])],false,iU (JS L [47])⟩
noncomputable def cstS (f:Nat) (k:Ky) (a:List Nat) (X:LU) (b:Bool):Cth:=if b=true then ⟨false,k,a,false,X⟩ else sO f k a X
noncomputable def cZ (L:LU):Cth :=
 if lC 74 L=false then ⟨false,Ky.z,[],false,L⟩ else
 if Ba (iL 74 L)≠0 then ⟨false,Ky.z,[],false,lW 74 L⟩ else sO ((lW 74 L).length+1) (iP (iL 74 L)) [] (lW 74 L)
noncomputable def ckA (L:LU):dB:=⟨(cZ L).k,(cZ L).s,(cZ L).w,none,0⟩
theorem csN_lt (L:LU):csN L<4294967296:=by rw [csN_eq];exact Nat.mod_lt _ dC
section
variable {f:Nat} {k:Ky} {a:List Nat} {X L:List UInt8}
theorem ck_b (h:lC 74 L=false):cZ L=⟨false,Ky.z,[],false,lW 74 L⟩:=by unfold cZ;rw [if_pos h,(ch_f h).2]
theorem ck_k (h:lC 74 L=true) (h1:Ba (iL 74 L)≠0):cZ L=⟨false,Ky.z,[],false,lW 74 L⟩:=by unfold cZ;rw [if_neg (by grind),if_pos h1]
theorem ck_s (h:lC 74 L=true) (h1:Ba (iL 74 L)=0):cstS ((lW 74 L).length+1) (iP (iL 74 L)) [] (lW 74 L) false=cZ L:=by
 unfold cstS cZ;rw [if_neg dC,if_neg (by grind),if_neg (fun q=>q h1)]
theorem cs_b (hr:cstS f k a X true=cZ L):cZ L=⟨false,k,a,false,X⟩:=by rw [<- hr];rfl
variable (hf:X.length<f) (hr:cstS f k a X false=cZ L)
include hf hr
theorem cs_go:∃ g,f=g+1/\sO (g+1) k a X=cZ L:=⟨f-1,om,by rw [show f-1+1=f by omega];exact hr⟩
theorem cs_e0 (h:JU X [47]=false):cZ L=⟨true,k,a,false,X⟩:=by
 obtain ⟨g,rfl,e⟩:=cs_go hf hr
 rw [<- e,sO,if_pos h]
theorem cs_e1 (h:JU X [47]=true) (h1:JU (JS X [47]) [42]=true):cZ L=⟨true,k,a,true,JS (JS X [47]) [42]⟩:=by
 obtain ⟨g,rfl,e⟩:=cs_go hf hr
 rw [<- e,sO,if_neg (by grind),if_pos h1]
variable (h:Lib.hasPrefix X [47]=true) (h1:Lib.hasPrefix (Lib.trimPrefix X [47]) [42]=false)
include h h1
theorem cs_nh (h2:JU (iU (JS X [47])) [104]=true) (h3:o8 (JS X [47])<2147483648):cstS (f-1) k (a++[csN (JS X [47])]) (JS (iU (JS X [47])) [104]) (!jV (JS X [47]))=cZ L:=by
 obtain ⟨g,rfl,e⟩:=cs_go hf hr
 rw [<- e,sO,if_neg (by rw [h];decide),if_neg (by rw [h1];decide),if_pos h2]
 unfold cpO cstS
 rw [decide_eq_true h3,Bool.and_true]
 cases jV (JS X [47])<;>rfl
theorem cs_nH (h2:JU (iU (JS X [47])) [104]=true) (h3: ¬ o8 (JS X [47])<2147483648):cstS (f-1) k (a++[csN (JS X [47])]) (JS (iU (JS X [47])) [104]) true=cZ L:=by
 obtain ⟨g,rfl,e⟩:=cs_go hf hr
 rw [<- e,sO,if_neg (by grind),if_neg (by grind),if_pos h2]
 unfold cpO
 rw [decide_eq_false h3,Bool.and_false]
 rfl
theorem cs_nn (h2:JU (iU (JS X [47])) [104]=false) (h3:o8 (JS X [47])<2147483648):cstS (f-1) k (a++[o8 (JS X [47])]) (iU (JS X [47])) (!jV (JS X [47]))=cZ L:=by
 obtain ⟨g,rfl,e⟩:=cs_go hf hr
 rw [<- e,sO,if_neg (by grind),if_neg (by grind),if_neg (by grind)]
 unfold cpO cstS
 rw [decide_eq_true h3]
 cases jV (JS X [47])<;>rfl
theorem cs_nN (h2:JU (iU (JS X [47])) [104]=false) (h3: ¬ o8 (JS X [47])<2147483648):cstS (f-1) k (a++[o8 (JS X [47])]) (iU (JS X [47])) true=cZ L:=by
 obtain ⟨g,rfl,e⟩:=cs_go hf hr
 rw [<- e,sO,if_neg (by grind),if_neg (by grind),if_neg (by grind)]
 unfold cpO
 rw [decide_eq_false h3,Bool.and_false]
 rfl
end
theorem cst_sfx:∀ (f:Nat) (k:Ky) (a:List Nat) (X:LU),X <:+ S->(sO f k a X).l <:+ S
 | 0,_,_,_,h=>h
 | f + 1, k, a, X, h => by
   have h1:=mJ h [47]
   have h2:=kZ h1
   unfold sO
   split
   ·exact h
   split
   ·exact mJ h1 _
   split
   ·split
    ·exact cst_sfx f _ _ _ (mJ h2 _)
    ·exact mJ h2 _
   ·split
    ·exact cst_sfx f _ _ _ h2
    ·exact h2
theorem Dn {L:LU} (h:L <:+ S):(cZ L).l <:+ S:=by
 unfold cZ
 split
 ·exact h
 split
 ·exact qX h _
 ·exact cst_sfx _ _ _ _ (qX h _)
theorem ck_len (L:LU):(cZ L).l.length<=L.length:=G5 (Dn (JD L))
theorem cst_ok : ∀ (f : Nat) (k : Ky) (a : List Nat) (X : LU), k.Ok -> (∀ i ∈ a, i < 4294967296) -> (sO f k a X).k.Ok /\ (∀ i ∈ (sO f k a X).s, i < 4294967296) /\ (sO f k a X).k = k /\ (sO f k a X).s.length <= a.length + X.length + 1
 | 0,_,a,X,hk,ha=>⟨hk,ha,rfl,by show a.length<=a.length+X.length+1;omega⟩
 | f + 1, k, a, X, hk, ha => by
   have q2:=yJ (JS X [47])
   have q3:=dY (iU (JS X [47])) [104]
   have a1:∀ i∈a++[csN (JS X [47])],i<4294967296:=fun i hi=>(Jc.1 hi).elim (ha i) (fun e=>by rw [IV.1 e];exact csN_lt _)
   have a2:∀ i∈a++[o8 (JS X [47])],i<4294967296:=fun i hi=>(Jc.1 hi).elim (ha i) (fun e=>by rw [IV.1 e];exact Ac _)
   have l1:∀ x:Nat,(a++[x]).length=a.length+1:=fun x=>by simp
   unfold sO
   split
   ·exact ⟨hk,ha,rfl,by grind⟩
   have q4:=qH (L:=X) (b:=47) (W:=[]) (by grind)
   split
   ·exact ⟨hk,ha,rfl,by grind⟩
   split
   ·split
    ·have := cst_ok f k _ (JS (iU (JS X [47])) [104]) hk a1
     rw [l1] at this
     exact ⟨this.1,this.2.1,this.2.2.1,om⟩
    ·exact ⟨hk,a1,rfl,by simp⟩
   ·split
    ·have := cst_ok f k _ (iU (JS X [47])) hk a2
     rw [l1] at this
     exact ⟨this.1,this.2.1,this.2.2.1,om⟩
    ·exact ⟨hk,a2,rfl,by simp⟩
theorem kdK_rng (B:LU):GK (iP B).d:=by
 unfold iP
 split
 ·show GK ((gB B 1 ) : _)
  have:=gV B 1
  unfold GK;omega
 ·exact ⟨by decide,by decide⟩
theorem ckA_ok (L:LU):(ckA L).Ok:=by
 unfold ckA
 have hz:Ky.z.Ok/\GK Ky.z.d:=⟨Ky.z_ok,by exact ⟨by decide,by decide⟩⟩
 have h0:∀ i∈([]:List _),i<4294967296:=fun i hi=>absurd hi (by simp)
 unfold cZ
 split
 ·exact ⟨hz.1,hz.2,h0⟩
 split
 ·exact ⟨hz.1,hz.2,h0⟩
 ·obtain ⟨h1, h2, h3, _⟩ := cst_ok _ _ [] _ (kdK_ok _) h0
  exact ⟨h1,by rw [h3];exact kdK_rng _,h2⟩
structure Cks where
 ks:List dB
 l:LU
 b:Bool
noncomputable def uH:Nat->List dB->LU->Bool->Cks
 | 0,a,L,_=>⟨a,L,true⟩
 | f + 1, a, L, b =>
   if b=true then ⟨a,L,true⟩ else
   if JU L [44]=false then ⟨a,L,false⟩ else
   uH f (a++[ckA (JS L [44])]) (cZ (JS L [44])).l (!(cZ (JS L [44])).o)
structure Chd where
 t:aX
 l:LU
 b:Bool
def chH (L:LU):Nat:=if lC 32 L=true then nB ((iL 32 L).take 32) else 0
noncomputable def zX (k:Int) (L:LU):Chd :=
 if k=1 then ⟨tz k 0 0 0 [ckA L],(cZ L).l,!(cZ L).o⟩ else
 if k=2 then (fun y:Cks=>⟨tz k (o8 L) 0 0 y.ks,y.l,y.b⟩) (uH ((iU L).length+1) [] (iU L) (!jV L)) else
 if k=3\/k=4 then ⟨tz k 0 (o8 L) 0 [],iU L,!jV L⟩ else
 if k=5 then ⟨tz k 0 0 (chH L) [],lW 32 L,!lC 32 L⟩ else
 ⟨tz k 0 0 0 [],L,false⟩
def kX (b:Bool) (L W:LU):Bool:=b|| !JU L W
def kM (b:Bool) (L W:LU):LU:=if b=true then L else JS L W
structure Cu where
 l:LU
 b:Bool
 ts:List aX
def Cu.fin (s:Cu) (n:Nat) (t:aX):Cu:=⟨kM s.b s.l [41],kX s.b s.l [41],s.ts.set n t⟩
def zt:aX:=tz 0 0 0 0 []
noncomputable def dD:Nat->Cu->Cu
 | 0,s=>⟨s.l,true,s.ts⟩
 | f + 1, s =>
   if s.b=true\/8<=s.ts.length then ⟨s.l,true,s.ts⟩ else
   if eG s.l=0 then Cu.fin ⟨s.l,true,s.ts++[zt]⟩ s.ts.length zt else
   (fun x:Chd =>
    if eG s.l=1\/eG s.l=2 then Cu.fin ⟨x.l,x.b,s.ts++[zt]⟩ s.ts.length x.t else
    if eG s.l=6 then
     (fun y:Cu=>Cu.fin (dD f ⟨kM y.b y.l [44],kX y.b y.l [44],y.ts⟩) s.ts.length x.t) (dD f ⟨x.l,x.b,s.ts++[zt]⟩)
    else Cu.fin (dD f ⟨kM x.b x.l [44],kX x.b x.l [44],s.ts++[zt]⟩) s.ts.length x.t) (zX (eG s.l) (aN s.l))
theorem lX {L:LU} (h:L <:+ S) (b:Bool) (W:LU):kM b L W <:+ S:=by
 unfold kM;split
 ·exact h
 ·exact mJ h W
theorem eQ {L:LU} (h:L <:+ S):aN L <:+ S:=by
 unfold aN;split
 ·exact h
 ·exact mJ h _
theorem cks_sfx:∀ (f:Nat) (a:List dB) (L:LU) (b:Bool),L <:+ S->(uH f a L b).l <:+ S
 | 0,_,_,_,h=>h
 | f + 1, a, L, b, h => by
   unfold uH
   split
   ·exact h
   split
   ·exact h
   ·exact cks_sfx f _ _ _ (Dn (mJ h _))
theorem chd_sfx {L:LU} (h:L <:+ S) (k:Int):(zX k L).l <:+ S:=by
 unfold zX
 split
 ·exact Dn h
 split
 ·exact cks_sfx _ _ _ _ (kZ h)
 split
 ·exact kZ h
 split
 ·exact qX h _
 ·exact h
theorem rV:∀ (f:Nat) (s:Cu),s.l <:+ S->(dD f s).l <:+ S
 | 0,_,h=>h
 | f + 1, s, h => by
   have h1:=chd_sfx (eQ h) (eG s.l)
   unfold dD
   split
   ·exact h
   split
   ·show kM true _ [41] <:+ S
    exact lX h _ _
   split
   ·show kM _ (zX _ _).l _ <:+ S
    exact lX h1 _ _
   split
   ·show kM _ (dD f _).l _ <:+ S
    exact lX (rV f _ (lX (rV f _ h1) _ _)) _ _
   ·show kM _ (dD f _).l _ <:+ S
    exact lX (rV f _ (lX h1 _ _)) _ _
theorem cu_n:∀ (f:Nat) (s:Cu),s.ts.length<=(dD f s).ts.length/\(s.ts.length<=8->(dD f s).ts.length<=8)
 | 0,_=>⟨IL _,id⟩
 | f + 1, s => by
   have l1:(s.ts++[zt]).length=s.ts.length+1:=by simp
   have ih:=cu_n f
   unfold dD
   split
   ·exact ⟨IL _,id⟩
   split
   ·show _ <= ((s.ts ++ _).set _ _).length /\ (_ -> ((s.ts ++ _).set _ _).length <= 8)
    rw [Jd];omega
   show s.ts.length<=(if _ then _ else _:Cu).ts.length/\(_->(if _ then _ else _:Cu).ts.length<=8)
   split
   ·show _ <= ((s.ts ++ _).set _ _).length /\ (_ -> ((s.ts ++ _).set _ _).length <= 8)
    rw [Jd];omega
   split
   ·have a1 := ih ⟨(zX (eG s.l) (aN s.l)).l, (zX (eG s.l) (aN s.l)).b, s.ts ++ [zt]⟩
    generalize dD f ⟨(zX _ _).l,(zX _ _).b,s.ts++[zt]⟩=y at a1 ⊢
    have a2:=ih ⟨kM y.b y.l [44],kX y.b y.l [44],y.ts⟩
    show s.ts.length<=((dD f _).ts.set _ _).length/\(_->((dD f _).ts.set _ _).length<=8)
    rw [Jd]
    simp at a1
    simp at a2
    omega
   ·have a2 := ih ⟨kM (zX (eG s.l) (aN s.l)).b (zX (eG s.l) (aN s.l)).l [44], kX (zX (eG s.l) (aN s.l)).b (zX (eG s.l) (aN s.l)).l [44], s.ts ++ [zt]⟩
    show s.ts.length<=((dD f _).ts.set _ _).length/\(_->((dD f _).ts.set _ _).length<=8)
    rw [Jd]
    simp at a2
    omega
end
variable {R:LU} {k:Ky} {ts:List aX}
section
theorem cd_back (hn:n<4294967296) (hR:∀ b,R.head? = some b->Dv b=false):jV (dS n++R)=true/\o8 (dS n++R)=n/\iU (dS n++R)=R:=by
 obtain ⟨h1,h2⟩:=num_at hR
 obtain ⟨p1,p2⟩:=parse_dS hn
 have hw:yE (dS n++R)=dS n:=h1
 have ho:jV (dS n++R)=true:=by
  unfold jV;rw [hw,p1,p2,decide_eq_true rfl,decide_eq_true (EU om),decide_eq_true rfl];rfl
 exact ⟨ho,by rw [cdV_t ho,hw,p2],h2⟩
theorem ch_back {B:LU} (hn:B.length=n) (h9:n<=1000):lC n (kU B++R)=true/\iL n (kU B++R)=B/\lW n (kU B++R)=R:=by
 have hl:(kU B).length=2*n:=by rw [bD,hn]
 have ht:(kU B++R).take (2*n)=kU B:=by grind
 obtain ⟨e1,e2,e3⟩:=ch_t (n:=n) (L:=kU B++R) (by grind) (by rw [ht];exact hx_back_e om) (by rw [ht,hx_back_x om])
 rw [e1,e2,e3,ht,hx_back_x om,<- hl,List.drop_left]
 exact ⟨rfl,rfl,rfl⟩
theorem cst_bh {f:Nat} {a:List Nat} {T:LU} (hn:n<2147483648):sO (f+1) k a (47::(dS n++(104::T)))=sO f k (a++[n+2147483648]) T:=by
 obtain ⟨h1,h2⟩:=lJ 47 (dS n++(104::T))
 obtain ⟨n1,n2,n3⟩:=cd_back (n:=n) om (nodg104 T)
 obtain ⟨h3,h4⟩:=lJ 104 T
 have hcp:cpO (dS n++(104::T))=true:=by unfold cpO;rw [n1,n2,decide_eq_true hn];rfl
 have hcs:csN (dS n++(104::T))=n+2147483648:=by rw [csN_eq];omega
 rw [sO,if_neg (by grind),h2,if_neg (by rw [dS_star];decide),n3,if_pos h3,if_pos hcp,h4,hcs]
theorem cst_bn {f:Nat} {a:List Nat} {T:LU} (hn:n<2147483648) (t1:∀ b,T.head? = some b->Dv b=false) (t2:JU T [104]=false):sO (f+1) k a (47::(dS n++T))=sO f k (a++[n]) T:=by
 obtain ⟨h1,h2⟩:=lJ 47 (dS n++T)
 obtain ⟨n1,n2,n3⟩:=cd_back (n:=n) om t1
 have hcp:cpO (dS n++T)=true:=by unfold cpO;rw [n1,n2,decide_eq_true hn];rfl
 rw [sO,if_neg (by grind),h2,if_neg (by rw [dS_star];decide),n3,if_neg (by grind),if_pos hcp,n2]
theorem cst_bi {wd:Bool} {T:LU} {i f:Nat} {a ps:List Nat} (ih:∀ a:List Nat,T.length<f->sO f k a T=⟨true,k,a++ps,wd,R⟩) (hf:T.length<f) (hi:i<4294967296) (t1:∀ b,T.head? = some b->Dv b=false) (t2:JU T [104]=false):sO (f+1) k a (sgT i++T)=⟨true,k,a++i::ps,wd,R⟩:=by
 rcases Nat.lt_or_ge i 2147483648 with h | h
 ·rw [sgT_n om]
  show sO (f+1) k a (47::(dS i++T))=_
  rw [cst_bn h t1 t2,ih _ hf,app_one]
 ·obtain ⟨n, rfl⟩ := Nat.exists_eq_add_of_le' h
  rw [sgT_hh,e_h,cst_bh om,ih _ hf,app_one]
theorem cst_nil {wd:Bool} (hR:BP R) (f:Nat) (a:List Nat):sO (f+1) k a (wdT wd++R)=⟨true,k,a,wd,R⟩:=by
 cases wd with
 | false =>
   show sO (f+1) k a R=_
   rw [sO,if_pos (stop_no hR dC dC)]
 | true =>
   show sO (f+1) k a (47::42::R)=_
   obtain ⟨h1,h2⟩:=lJ 47 (42::R)
   obtain ⟨h3,h4⟩:=lJ 42 R
   rw [sO,if_neg (by grind),h2,if_pos h3,h4]
theorem cst_back {wd:Bool} (hR:BP R) (ps:List Nat):∀ (f:Nat) (a:List Nat),(∀ i∈ps,i<4294967296)->(EO ps++(wdT wd++R)).length<f->sO f k a (EO ps++(wdT wd++R))=⟨true,k,a++ps,wd,R⟩:=by
 induction ps with
 | nil =>
   intro f a _ hf
   obtain ⟨f,rfl⟩:∃ g,f=g+1:=⟨f-1,om⟩
   rw [I9]
   exact cst_nil hR f a
 | cons i ps ih =>
   intro f a hi hf
   obtain ⟨f,rfl⟩:∃ g,f=g+1:=⟨f-1,om⟩
   obtain ⟨t1,t2⟩:=tail_hd hR
   have ih:=fun a=>ih f a (fun x hx=>hi x (Je _ hx))
   rw [Ei,IR] at hf ⊢
   have h1:=sgT_len1 i
   rw [II] at hf
   exact cst_bi ih om (hi i Ji) t1 t2
theorem ck_back {p:dB} (hp:p.Ok) (hs:wB p.k=true) (hR:BP R):cZ (p.tx++R)=⟨true,p.k,p.ps,p.wd,R⟩:=by
 have e:p.tx++R=kU (uG p.k)++(EO p.ps++(wdT p.wd++R)):=by
  show ((kU (uG p.k)++EO p.ps)++(if p.wd=true then [47,42] else []))++R=_
  simp;rfl
 rw [e]
 obtain ⟨b1,b2,b3⟩:=ch_back (R:=EO p.ps++(wdT p.wd++R)) (zQ p.k) dC
 obtain ⟨k1,k2⟩:=en_back1 hp.k hs
 unfold cZ
 rw [if_neg (by grind),b2,if_neg om,b3,k2,cst_back hR p.ps _ [] hp.ps (Jo _)];rfl
theorem cks_back (ks:List dB):∀ (f:Nat) (a:List dB),(∀ p∈ks,p.Ok/\wB p.k=true)->(vZ ks++41::R).length<f->uH f a (vZ ks++41::R) false=⟨a++ks.map dB.er,41::R,false⟩:=by
 induction ks with
 | nil =>
   intro f a _ hf
   obtain ⟨f,rfl⟩:∃ g,f=g+1:=⟨f-1,om⟩
   show uH (f+1) a (41::R) false=_
   rw [uH,if_neg dC,if_pos (Dc dC),List.map_nil,I9]
 | cons p ks ih =>
   intro f a hk hf
   obtain ⟨f,rfl⟩:∃ g,f=g+1:=⟨f-1,om⟩
   obtain ⟨hp,hs⟩:=hk p Ji
   have ih:=ih f (a++[p.er]) (fun q hq=>hk q (Je _ hq))
   have e:vZ (p::ks)++41::R=44::(p.tx++(vZ ks++41::R)):=by
    show (([44]++p.tx)++vZ ks)++_=_
    simp only [IR];rfl
   rw [e] at hf ⊢
   have hst:BP (vZ ks++41::R):=by
    cases ks with
    | nil=>exact ⟨R,I5 rfl⟩
    | cons q r=>exact ⟨q.tx++(vZ r++41::R),Jj (by show (([44]++q.tx)++vZ r)++_=_;simp only [IR];rfl)⟩
   obtain ⟨h1,h2⟩:=lJ 44 (p.tx++(vZ ks++41::R))
   have r1:=ck_back hp hs hst
   have r2:ckA (p.tx++(vZ ks++41::R))=p.er:=by unfold ckA;rw [r1];rfl
   rw [uH,h2,r2,r1]
   show uH f (a++[p.er]) (vZ ks++41::R) false=_
   rw [ih (by grind),IR];rfl
theorem ch_b1 {t:aX} (h:VtT t) (hk:t.kd=1):zX t.kd ((gK t.ks 0).tx++41::R)=⟨t.er,41::R,false⟩:=by
 have hF:=(xK _ _ _ _ _).1 h.fd
 unfold DY at hF
 obtain ⟨p,hp⟩:∃ p,t.ks=[p]:=by
  have:=hF.2.2.2.1 hk
  cases e:t.ks with
  | nil=>rw [e] at this;simp at this
  | cons p r=>rw [e] at this;exact ⟨p,by grind⟩
 obtain ⟨q1,q2⟩:=h.ks p (by grind)
 have e:gK t.ks 0=p:=by rw [hp];rfl
 have r1:=ck_back q1 q2 ⟨R,I5 rfl⟩
 have r2:ckA (p.tx++41::R)=p.er:=by unfold ckA;rw [r1];rfl
 unfold zX
 rw [if_pos hk,e,r2,r1]
 unfold aX.er tz
 rw [hp,show t.m=0 by omega,show t.nu=0 by omega,show t.h=0 by omega];rfl
theorem ch_b2 {t:aX} (h:VtT t) (hk:t.kd=2):zX t.kd (dS t.m.toNat++(vZ t.ks++41::R))=⟨t.er,41::R,false⟩:=by
 have hF:=(xK _ _ _ _ _).1 h.fd
 unfold DY at hF
 have hst:BP (vZ t.ks++41::R):=by
  cases t.ks with
  | nil=>exact ⟨R,I5 rfl⟩
  | cons q r=>exact ⟨q.tx++(vZ r++41::R),Jj (by show (([44]++q.tx)++vZ r)++_=_;simp only [IR];rfl)⟩
 obtain ⟨n1,n2,n3⟩:=cd_back (n:=t.m.toNat) om (Ha hst)
 unfold zX
 rw [if_neg om,if_pos hk,n1,n2,n3]
 show (fun y:Cks=>(⟨tz t.kd ((t.m.toNat):Int) 0 0 y.ks,y.l,y.b⟩:Chd)) (uH ((vZ t.ks++41::R).length+1) [] (vZ t.ks++41::R) false)=_
 rw [cks_back t.ks _ _ h.ks (Jo _)]
 unfold aX.er tz
 rw [show t.nu=0 by omega,show t.h=0 by omega,show ((t.m.toNat):Int)=t.m by omega];rfl
theorem ch_b3 {t:aX} (h:VtT t) (hk:t.kd=3\/t.kd=4):zX t.kd (dS t.nu++44::R)=⟨t.er,44::R,false⟩:=by
 have hF:=(xK _ _ _ _ _).1 h.fd
 unfold DY at hF
 obtain ⟨n1,n2,n3⟩:=cd_back h.ok.nu (Ha ⟨_,Jj rfl⟩)
 unfold zX
 rw [if_neg om,if_neg om,if_pos hk,n1,n2,n3]
 unfold aX.er tz
 rw [Jh (show t.ks.length=0 by omega),show t.m=0 by omega,show t.h=0 by omega];rfl
theorem ch_b5 {t:aX} (h:VtT t) (hk:t.kd=5):zX t.kd (kU (hL t.h)++44::R)=⟨t.er,44::R,false⟩:=by
 have hF:=(xK _ _ _ _ _).1 h.fd
 unfold DY at hF
 obtain ⟨n1,n2,n3⟩:=ch_back (aT t.h) dC
 have hh:chH (kU (hL t.h)++44::R)=t.h:=by
  unfold chH;rw [if_pos n1,n2,Jr (by exact IL _),nB_hL h.ok.h]
 unfold zX
 rw [if_neg om,if_neg om,if_neg om,if_pos hk,hh,n1,n3]
 unfold aX.er tz
 rw [Jh (show t.ks.length=0 by omega),show t.m=0 by omega,show t.nu=0 by omega];rfl
theorem ch_b6 {t:aX} (h:VtT t) (hk:t.kd=6):zX t.kd R=⟨t.er,R,false⟩:=by
 have hF:=(xK _ _ _ _ _).1 h.fd
 unfold DY at hF
 unfold zX
 rw [if_neg om,if_neg om,if_neg om,if_neg om]
 unfold aX.er tz
 rw [Jh (show t.ks.length=0 by omega),show t.m=0 by omega,show t.nu=0 by omega,show t.h=0 by omega];rfl
theorem wn_yes (R:LU) (b:UInt8):kX false (b::R) [b]=false/\kM false (b::R) [b]=R:=by
 obtain ⟨h1,h2⟩:=lJ b R
 unfold kX kM
 rw [h1,h2];exact ⟨rfl,rfl⟩
theorem fin_yes (R:LU) (ts:List aX) (n:Nat) (t:aX):Cu.fin ⟨41::R,false,ts⟩ n t=⟨R,false,ts.set n t⟩:=rfl
theorem set_at (a b:List aX) (z t:aX):((a++[z])++b).set a.length t=a++t::b:=by simp
theorem set_at0 (a:List aX) (z t:aX):(a++[z]).set a.length t=a++[t]:=by simp
section
variable {f:Nat} {a:List aX} {t:aX} {B X:List UInt8} (hk:1≤t.kd∧t.kd≤6) (h8:a.length<8) (hx:zX t.kd B=⟨t.er,X,false⟩)
include hk h8 hx
theorem cu_hd : dD (f + 1) ⟨sN t.kd ++ B, false, a⟩ = 
 (if t.kd=1\/t.kd=2 then Cu.fin ⟨X,false,a++[zt]⟩ a.length t.er else
 if t.kd=6 then
  (fun y:Cu=>Cu.fin (dD f ⟨kM y.b y.l [44],kX y.b y.l [44],y.ts⟩) a.length t.er) (dD f ⟨X,false,a++[zt]⟩)
 else Cu.fin (dD f ⟨kM false X [44],kX false X [44],a++[zt]⟩) a.length t.er):=by
 obtain ⟨e1,e2⟩:=kd_back hk B
 conv=>lhs;unfold dD
 rw [if_neg (by grind)]
 rw [e1,if_neg om,e2,hx]
theorem cb_0 (hn:t.kd=1\/t.kd=2) (hX:X=41::R):dD (f+1) ⟨sN t.kd++B,false,a⟩=⟨R,false,a++[t.er]⟩:=by
 rw [cu_hd hk h8 hx,if_pos hn,hX,fin_yes,set_at0]
theorem cb_1 {Y:LU} {c:List aX} (hn:t.kd=3\/t.kd=4\/t.kd=5) (hX:X=44::Y) (hy:dD f ⟨Y,false,a++[zt]⟩=⟨41::R,false,(a++[zt])++c⟩):dD (f+1) ⟨sN t.kd++B,false,a⟩=⟨R,false,a++t.er::c⟩:=by
 rw [cu_hd hk h8 hx,if_neg om,if_neg om,hX,(wn_yes Y 44).1,(wn_yes Y 44).2,hy,fin_yes,set_at]
theorem cb_2 {Y:LU} {c d:List aX} (hn:t.kd=6) (hy:dD f ⟨X,false,a++[zt]⟩=⟨44::Y,false,(a++[zt])++c⟩) (hz:dD f ⟨Y,false,(a++[zt])++c⟩=⟨41::R,false,(a++[zt])++c++d⟩):dD (f+1) ⟨sN t.kd++B,false,a⟩=⟨R,false,a++t.er::(c++d)⟩:=by
 rw [cu_hd hk h8 hx,if_neg om,if_pos hn,hy]
 show Cu.fin (dD f ⟨kM false (44::Y) [44],kX false (44::Y) [44],_⟩) a.length t.er=_
 rw [(wn_yes Y 44).1,(wn_yes Y 44).2,hz,fin_yes,IR (a++[zt]),set_at]
end
theorem cu_back : ∀ (f : Nat) (s : Tq) (x : LU) (s' : Tq), bx f s = some (x, s') -> (∀ t ∈ s.ts, VtT t) ->
 ∃ pre,s.ts=pre++s'.ts/\1<=pre.length/\∀ (g:Nat) (a:List aX) (R:LU),a.length+pre.length<=8->9<=g+a.length->dD g ⟨x++R,false,a⟩=⟨R,false,a++pre.map aX.er⟩
 | f + 1, s, x, s', h, hv => by
   unfold bx at h
   split at h
   ·exact absurd h (by simp)
   have h0:0<s.ts.length:=om
   have ht:VtT s.fst:=hv _ (fH h0)
   have hsp:s.ts=s.fst::s.go.ts:=by
    cases e:s.ts with
    | nil=>rw [e] at h0;simp at h0
    | cons t r =>
      have e1:s.fst=t:=by unfold Tq.fst;rw [e];rfl
      have e2:s.go.ts=r:=by show s.ts.tail=r;rw [e];rfl
      rw [e1,e2]
   have hvg:∀ t∈s.go.ts,VtT t:=fun t ht=>hv t (by grind)
   have hN:∀ {g:Nat} {a:List aX},a.length+1<=8->9<=g+a.length->∃ g',g=g'+1/\a.length<8/\9<=g'+(a++[zt]).length:=fun {g a} q1 q2=>by
    rw [II,IJ]
    exact ⟨g-1,om,om,om⟩
   split at h
   ·rename_i hk
    obtain ⟨rfl,rfl⟩:=h
    refine ⟨[s.fst],hsp,IL _,fun g a R q1 q2=>?_⟩
    obtain ⟨g',rfl,h8,_⟩:=hN om q2
    have e:lL (gK s.fst.ks 0)++R=sN s.fst.kd++((gK s.fst.ks 0).tx++41::R):=by
     rw [hk]
     show ((([107,101,121,40]:LU)++(gK s.fst.ks 0).tx)++[41])++R=([107,101,121]++[40])++_
     simp
    rw [e]
    exact cb_0 om h8 (ch_b1 ht hk) (Jj hk) rfl
   split at h
   ·rename_i hk
    obtain ⟨rfl,rfl⟩:=h
    refine ⟨[s.fst],hsp,IL _,fun g a R q1 q2=>?_⟩
    obtain ⟨g',rfl,h8,_⟩:=hN om q2
    have e:lM s.fst.m s.fst.ks++R=sN s.fst.kd++(dS s.fst.m.toNat++(vZ s.fst.ks++41::R)):=by
     rw [hk]
     show (((([109,117,108,116,105,40]:LU)++dS s.fst.m.toNat)++vZ s.fst.ks)++[41])++R=([109,117,108,116,105]++[40])++_
     simp
    rw [e]
    exact cb_0 om h8 (ch_b2 ht hk) (I5 hk) rfl
   split at h
   ·exact absurd h (by simp)
   rename_i k1 k2 _ xa s1 e1
   obtain ⟨p1,hp1,l1,r1⟩:=cu_back f _ _ _ e1 hvg
   have hv1:∀ t∈s1.ts,VtT t:=fun t ht=>hvg t (by grind)
   split at h
   ·rename_i hk
    split at h
    ·exact absurd h (by simp)
    rename_i xb s2 e2
    obtain ⟨p2,hp2,l2,r2⟩:=cu_back f _ _ _ e2 hv1
    obtain ⟨rfl,rfl⟩:=h
    refine ⟨s.fst::(p1++p2),by grind,by simp,fun g a R q1 q2=>?_⟩
    rw [IJ,II] at q1
    obtain ⟨g',rfl,h8,q3⟩:=hN om q2
    have la:(a++[zt]).length=a.length+1:=by simp
    have e:eiT xa xb++R=sN s.fst.kd++(xa++(44::(xb++41::R))):=by
     rw [hk]
     show ((((([101,105,116,104,101,114,40]:LU)++xa)++[44])++xb)++[41])++R=([101,105,116,104,101,114]++[40])++_
     simp
    rw [e,cb_2 om h8 (ch_b6 ht hk) hk (r1 g' (a++[zt]) (44::(xb++41::R)) om q3) (r2 g' _ (41::R) (by grind) (by grind))]
    simp
   · split at h
     ·rename_i hk
      have hk:s.fst.kd=3\/s.fst.kd=4\/s.fst.kd=5:=om
      obtain ⟨rfl,rfl⟩:=h
      refine ⟨s.fst::p1,by grind,by simp,fun g a R q1 q2=>?_⟩
      rw [IJ] at q1
      obtain ⟨g',rfl,h8,q3⟩:=hN om q2
      have la:(a++[zt]).length=a.length+1:=by simp
      have ih:=r1 g' (a++[zt]) (41::R) om q3
      have fin:(⟨R,false,a++s.fst.er::p1.map aX.er⟩:Cu)=⟨R,false,a++(s.fst::p1).map aX.er⟩:=rfl
      by_cases c5:s.fst.kd=5
      ·have e : slT s.fst.kd s.fst.nu s.fst.h xa ++ R = sN s.fst.kd ++ (kU (hL s.fst.h) ++ 44 :: (xa ++ 41 :: R)) := by
        rw [c5]
        show ((((([104,97,115,104,40]:LU)++kU (hL s.fst.h))++[44])++xa)++[41])++R=([104,97,115,104]++[40])++_
        simp
       rw [e]
       exact cb_1 om h8 (ch_b5 ht c5) hk rfl ih
      ·have e : slT s.fst.kd s.fst.nu s.fst.h xa ++ R = sN s.fst.kd ++ (dS s.fst.nu ++ 44 :: (xa ++ 41 :: R)) := by
        rcases (by omega:s.fst.kd=3\/s.fst.kd=4) with c | c
        ·rw [c]
         show ((((([97,102,116,101,114,40]:LU)++dS s.fst.nu)++[44])++xa)++[41])++R=([97,102,116,101,114]++[40])++_
         simp
        ·rw [c]
         show ((((([111,108,100,101,114,40]:LU)++dS s.fst.nu)++[44])++xa)++[41])++R=([111,108,100,101,114]++[40])++_
         simp
       rw [e]
       exact cb_1 om h8 (ch_b3 ht om) hk rfl ih
     ·exact absurd h (by simp)
theorem cu_read (hv:xJ ts=true) (ho:qZ ts):dD 9 ⟨uB ts,false,[]⟩=⟨[],false,ts.map aX.er⟩:=by
 obtain ⟨s',h1,h2⟩:=bxB_go hv
 obtain ⟨pre,q1,q2,q3⟩:=cu_back 8 _ _ _ h1 (vt_of hv ho)
 have hp:pre=ts:=by grind
 have:=q3 9 [] [] (by rw [hp];have:=(Gh hv).1;simpa using this.2) dC
 rw [I9] at this
 rw [this,hp];rfl
end
variable {k:Int} {L:LU}
section
theorem lb_low {x y w:Nat}:∀ k,k<=w->fZ (x+y*256^w) k=fZ x k
 | 0,_=>rfl
 | k + 1, h => by
   rw [fZ,fZ,lb_low k om]
   obtain ⟨d,rfl⟩:∃ d,w=k+1+d:=⟨w-(k+1),om⟩
   have e:y*256^(k+1+d)=256^k*(256*(y*256^d)):=by grind
   rw [e,Nat.add_mul_div_left _ _ (Nat.pow_pos dC),Nat.add_mul_mod_self_left]
theorem md_snoc {B:LU} {a w:Nat} (h:a+w<B.length):nT B a (a+(w+1))=nT B a (a+w)++[B.getD (a+w) 0]:=by
 unfold nT
 rw [show a+(w+1)=a+w+1 from rfl,take_snoc h,Ju (by grind)]
theorem md_nil (B:LU) (a:Nat):nT B a a=[]:=by
 exact JE (by grind)
theorem lb_leN {B:LU} {a:Nat}:∀ w,a+w<=B.length->fZ (Af B a w) w=nT B a (a+w)
 | 0,_=>(md_nil B a).symm
 | w + 1, h => by
   rw [fZ,Af,lb_low w (IL _),lb_leN w om,md_snoc om,Nat.add_mul_div_right _ _ (Nat.pow_pos dC),Nat.div_eq_of_lt (leN_lt _ _ _),Nat.zero_add,Nat.mod_eq_of_lt (gV _ _),gB_ob]
theorem md_app {B:LU} {a b c:Nat} (h1:a<=b) (h2:b<=c) (h3:c<=B.length):nT B a b++nT B b c=nT B a c:=by
 unfold nT
 have e:=by
  have:=Jl b (B.take c)
  rw [List.take_take,JG h2] at this
  exact this.symm
 conv=>rhs;rw [e]
 rw [Ju (by grind)]
section
variable {B:List UInt8} (hl:B.length=74)
include hl
theorem rv_mid {z:Nat} (hz:z+4<=74):fZ (yQ B (z:Int) 4) 4=nT B z (z+4):=by
 unfold yQ
 rw [if_pos (rdE0 om om)]
 exact lb_leN 4 om
theorem hv_mid {z:Nat} (hz:z+32<=74):hL (nU B (z:Int))=nT B z (z+32):=by
 unfold nU
 rw [if_pos (rdE0 om om),Int.toNat_natCast,mid_take 32 om,hL_nB (by rw [oJ _ _ _ om];omega)]
theorem en_of {k:Ky} (h0:flg k.s=((gB B 0:Nat):Int)) (h1:mV k.d=((gB B 1:Nat):Int)) (h2:k.i=yQ B 2 4) (h3:k.n=yQ B 6 4) (h4:k.c=nU B 10) (h5:lst k=nU B 42):uG k=B:=by
 have m0:[ob ((gB B 0):Int),ob ((gB B 1):Int)]=nT B 0 2:=by
  rw [show 2=0+(1+1) from rfl,md_snoc om,md_snoc om,gB_ob,gB_ob];rfl
 have m1:fZ (yQ B 2 4) 4=nT B 2 6:=rv_mid hl dC
 have m2:fZ (yQ B 6 4) 4=nT B 6 10:=rv_mid hl dC
 have m3:hL (nU B 10)=nT B 10 42:=hv_mid hl dC
 have m4:hL (nU B 42)=nT B 42 74:=hv_mid hl dC
 unfold uG
 rw [h0,h1,h2,h3,h4,h5,m0,m1,m2,m3,m4,md_app dC dC om,md_app dC dC om,md_app dC dC om,md_app dC dC om]
 unfold nT
 rw [List.drop_zero,Jr om]
end
theorem en_dec {B : LU} (h : Ba B = 0) : uG (iP B) = B := by
 have hl:B.length=74:=Jb (fun q=>by have:=(dc_8 q).1;omega)
 have h1: ¬ (1<gB B 0\/8<gB B 1):=fun q=>by have:=(dc_5 hl q).1;omega
 have hd:mV ((gB B 1):Int)=((gB B 1):Int):=by
  unfold mV IntKind.wrap
  simp [IntKind.bits]
  omega
 by_cases h2:gB B 0=0
 ·cases hv : wH (nU B 42) with
  | false=>have:=(dc_v0 hl h1 h2 hv).1;omega
  | true =>
    rw [(dc_v1 hl h1 h2 hv).2]
    exact en_of hl (by rw [h2];rfl) hd rfl rfl rfl rfl
 ·by_cases hv : sQ (nU B 42) = 0
  ·have hz : nU B 42 ≠ 0 := fun e => by
    rw [e] at hv
    have:sQ 0=60:=(Gu dC).2
    omega
   rw [(dc_s1 hl h1 h2 hv).2]
   refine en_of hl ?_ hd rfl rfl rfl ?_
   ·show flg (nU B 42) = _
    unfold flg;rw [if_neg hz,show gB B 0=1 by omega];rfl
   ·exact if_neg hz
  ·have:=(dc_s0 hl h1 h2 hv).2.1;omega
theorem cd_text (h:jV L=true):L=dS (o8 L)++iU L:=by
 rw [cdV_t h,(Io h).2.2];exact (Jl _ _).symm
theorem ch_text (h:lC n L=true):L=kU (iL n L)++lW n L:=by
 obtain ⟨h1,h2,h3⟩:=chO_get h
 obtain ⟨_,e2,e3⟩:=ch_t h1 h2 h3
 rw [e2,e3,h3];exact (Jl _ _).symm
theorem CB (h:JU L W=true):L=W++JS L W:=by
 obtain ⟨r,rfl⟩:=I7.1 h
 rw [(pre_yes W r).2]
theorem cp_get (h:cpO L=true):jV L=true/\o8 L<2147483648:=by
 unfold cpO at h
 simpa only [Bool.and_eq_true,decide_eq_true_eq] using h
theorem cst_text : ∀ (f : Nat) (k : Ky) (a : List Nat) (L : LU), (sO f k a L).o = true -> ∃ ps, (sO f k a L).s = a ++ ps /\ L = EO ps ++ (wdT (sO f k a L).w ++ (sO f k a L).l)
 | f + 1, k, a, L, h => by
   unfold sO at h ⊢
   by_cases c0:JU L [47]=false
   ·rw [if_pos c0];exact ⟨[],(I9 a).symm,rfl⟩
   rw [if_neg c0] at h ⊢
   have e0:=CB (show JU L [47]=true by grind)
   generalize JS L [47]=L1 at h e0 ⊢
   by_cases c1:JU L1 [42]=true
   ·rw [if_pos c1]
    refine ⟨[],(I9 a).symm,?_⟩
    rw [e0]
    exact congrArg (([47]:LU)++·) (CB c1)
   rw [if_neg c1] at h ⊢
   by_cases c3:cpO L1=true
   ·obtain ⟨d1, d2⟩ := cp_get c3
    have e1:=cd_text d1
    by_cases c2:JU (iU L1) [104]=true
    ·rw [if_pos c2, if_pos c3] at h ⊢
     obtain ⟨ps,p1,p2⟩:=cst_text f k _ _ h
     refine ⟨csN L1::ps,by grind,?_⟩
     have e2:=CB c2
     have hs:sgT (csN L1)=([47]++dS (o8 L1))++[104]:=by rw [show csN L1=o8 L1+2147483648 by rw [csN_eq];omega,sgT_hh]
     rw [Ei,IR,<- p2,hs,e_h,e0]
     conv=>lhs;rw [e1,e2]
     rfl
    ·rw [if_neg c2, if_pos c3] at h ⊢
     obtain ⟨ps,p1,p2⟩:=cst_text f k _ _ h
     refine ⟨o8 L1::ps,by grind,?_⟩
     rw [Ei,sgT_n om,IR,<- p2,IR,<- e1,e0]
   ·by_cases c2 : JU (iU L1) [104] = true
    ·rw [if_pos c2,if_neg c3] at h;exact IQ (h)
    ·rw [if_neg c2,if_neg c3] at h;exact IQ (h)
theorem ck_text (h:(cZ L).o=true):L=(ckA L).tx++(cZ L).l:=by
 have c0:lC 74 L=true:=by
  cases q:lC 74 L with
  | true=>rfl
  | false=>rw [ck_b q] at h;exact IQ (h)
 have c1:=Jb (fun q=>by rw [ck_k c0 q] at h;exact IQ (h))
 have e:cZ L=sO ((lW 74 L).length+1) (iP (iL 74 L)) [] (lW 74 L):=(ck_s c0 c1).symm
 have hk:=(cst_ok ((lW 74 L).length+1) (iP (iL 74 L)) [] (lW 74 L) (kdK_ok _) (fun i hi=>absurd hi (by simp))).2.2.1
 rw [<- e] at hk
 rw [e] at h
 obtain ⟨ps,p1,p2⟩:=cst_text _ _ _ _ h
 rw [<- e] at p1 p2
 have et:=ch_text c0
 show L=kpT (cZ L).k (cZ L).s (cZ L).w++(cZ L).l
 unfold kpT
 rw [hk,en_dec c1,p1]
 show L=((kU (iL 74 L)++EO ps)++wdT (cZ L).w)++(cZ L).l
 rw [IR,IR,<- p2]
 exact et
theorem cks_text:∀ (f:Nat) (a:List dB) (L:LU) (b:Bool),(uH f a L b).b=false->b=false/\∃ ks,(uH f a L b).ks=a++ks/\L=vZ ks++(uH f a L b).l
 | f + 1, a, L, b, h => by
   unfold uH at h ⊢
   by_cases cb:b=true
   ·rw [if_pos cb] at h;exact IQ (h)
   rw [if_neg cb] at h ⊢
   refine ⟨by grind,?_⟩
   by_cases c0:JU L [44]=false
   ·rw [if_pos c0];exact ⟨[],(I9 a).symm,rfl⟩
   rw [if_neg c0] at h ⊢
   have e0:=CB (show JU L [44]=true by grind)
   generalize JS L [44]=L1 at h e0 ⊢
   obtain ⟨q1,ks,q2,q3⟩:=cks_text f _ _ _ h
   have e1:=ck_text (show (cZ L1).o=true by grind)
   refine ⟨ckA L1::ks,by grind,?_⟩
   show L=(([44]++(ckA L1).tx)++vZ ks)++_
   rw [IR,<- q3,IR,<- e1]
   exact e0
theorem kd_pre (h : eG L ≠ 0) : L = sN (eG L) ++ aN L := by
 have hp : JU L (sN (eG L)) = true := by
  cases c1:JU L (sN 1) with
  | true=>rw [(kdI_1 c1).1];exact c1
  | false =>
    cases c2:JU L (sN 2) with
    | true=>rw [(DJ c1 c2).1];exact c2
    | false =>
      cases c3:JU L (sN 3) with
      | true=>rw [(kdI_3 c1 c2 c3).1];exact c3
      | false =>
        cases c4:JU L (sN 4) with
        | true=>rw [(kdI_4 c1 c2 c3 c4).1];exact c4
        | false =>
          cases c5:JU L (sN 5) with
          | true=>rw [(kdI_5 c1 c2 c3 c4 c5).1];exact c5
          | false =>
            cases c6:JU L (sN 6) with
            | true=>rw [(kdI_6 c1 c2 c3 c4 c5 c6).1];exact c6
            | false=>exact absurd (kdI_0 c1 c2 c3 c4 c5 c6).1 h
 unfold aN
 rw [if_neg h]
 exact CB hp
theorem EZ {b:Bool} (h:kX b L W=false):b=false/\L=W++kM b L W:=by
 unfold kX at h
 rw [Bool.or_eq_false_iff] at h
 obtain ⟨rfl,h⟩:=h
 refine ⟨rfl,?_⟩
 unfold kM
 exact CB (by grind)
structure ChT (k:Int) (L:LU) (x:Chd):Prop where
 kd:x.t.kd=k
 t1:k=1->L=(gK x.t.ks 0).tx++x.l
 t2:k=2->L=dS x.t.m.toNat++(vZ x.t.ks++x.l)
 t3:k=3\/k=4->L=dS x.t.nu++x.l
 t5:k=5->L=kU (hL x.t.h)++x.l
 t6:k=6->L=x.l
theorem chd_text (hk:1<=k/\k<=6) (hb:(zX k L).b=false):ChT k L (zX k L):=by
 unfold zX at hb ⊢
 by_cases c1:k=1
 ·rw [if_pos c1] at hb ⊢
  exact ⟨rfl,fun _=>ck_text (by grind),fun e=>om,fun e=>om,fun e=>om,fun e=>om⟩
 rw [if_neg c1] at hb ⊢
 by_cases c2:k=2
 ·rw [if_pos c2] at hb ⊢
  obtain ⟨q1,ks,q2,q3⟩:=cks_text _ _ _ _ hb
  have e1:=cd_text (show jV L=true by grind)
  refine ⟨rfl,fun e=>om,fun _=>?_,fun e=>om,fun e=>om,fun e=>om⟩
  show L=dS (o8 L)++(vZ (uH _ _ _ _).ks++(uH _ _ _ _).l)
  rw [q2,List.nil_append,<- q3]
  exact e1
 rw [if_neg c2] at hb ⊢
 by_cases c3:k=3\/k=4
 ·rw [if_pos c3] at hb ⊢
  exact ⟨rfl,fun e=>om,fun e=>om,fun _=>cd_text (by grind),fun e=>om,fun e=>om⟩
 rw [if_neg c3] at hb ⊢
 by_cases c5:k=5
 ·rw [if_pos c5] at hb ⊢
  have ho:lC 32 L=true:=by grind
  have hl:=Fh ho
  refine ⟨rfl,fun e=>om,fun e=>om,fun e=>om,fun _=>?_,fun e=>om⟩
  show L=kU (hL (chH L))++lW 32 L
  unfold chH
  rw [if_pos ho,Jr om,hL_nB hl]
  exact ch_text ho
 rw [if_neg c5]
 exact ⟨rfl,fun e=>om,fun e=>om,fun e=>om,fun e=>om,fun _=>rfl⟩
section
variable {F:Nat} {q:Tq} {t:aX} {rest:List aX} (hq:q.ts=t::rest) (hf:t.fw=true)
include hq
theorem Hw:q.fst=t/\q.go.ts=rest:=by
 constructor
 ·unfold Tq.fst;rw [hq];rfl
 ·show q.ts.tail=rest;rw [hq];rfl
include hf
theorem bh_c: ¬ (q.ts.length=0\/q.fst.fw=false):=by rw [(Hw hq).1,hf,hq];simp
theorem bh_1 (hk:t.kd=1):bx (F+1) q=some (lL (gK t.ks 0),q.go):=by
 unfold bx;rw [if_neg (bh_c hq hf),(Hw hq).1,if_pos hk]
theorem bh_2 (hk:t.kd=2):bx (F+1) q=some (lM t.m t.ks,q.go):=by
 unfold bx;rw [if_neg (bh_c hq hf),(Hw hq).1,if_neg om,if_pos hk]
theorem bh_3 {a:LU} {q1:Tq} (hk:3<=t.kd/\t.kd<=5) (h:bx F q.go=some (a,q1)):bx (F+1) q=some (slT t.kd t.nu t.h a,q1):=by
 unfold bx;rw [if_neg (bh_c hq hf),(Hw hq).1,if_neg om,if_neg om,h]
 simp [if_neg (show ¬ t.kd=6 by omega),if_pos hk]
theorem bh_6 {a b:LU} {q1 q2:Tq} (hk:t.kd=6) (h:bx F q.go=some (a,q1)) (h2:bx F q1=some (b,q2)):bx (F+1) q=some (eiT a b,q2):=by
 unfold bx;rw [if_neg (bh_c hq hf),(Hw hq).1,if_neg om,if_neg om,h]
 simp [*]
end
def CuX (x:LU) (pre:List aX):Prop:=1<=pre.length/\∀ (F:Nat) (q:Tq) (rest:List aX),q.ts=pre++rest->pre.length<=F->(∀ t∈pre,t.fw=true)->∃ q',bx F q=some (x,q')/\q'.ts=rest
theorem cx_0 {x:LU} {t:aX} (h:(t.kd=1/\x=lL (gK t.ks 0))\/(t.kd=2/\x=lM t.m t.ks)):CuX x [t]:=by
 refine ⟨IL _,fun F q rest hq hF hw=>?_⟩
 obtain ⟨F,rfl⟩:∃ g,F=g+1:=⟨F-1,by grind⟩
 have hf:=hw t Ji
 rcases h with ⟨hk,rfl⟩ | ⟨hk,rfl⟩
 ·exact ⟨q.go,bh_1 hq hf hk,(Hw hq).2⟩
 ·exact ⟨q.go,bh_2 hq hf hk,(Hw hq).2⟩
theorem cx_1 {a:LU} {t:aX} {pre:List aX} (hk:3<=t.kd/\t.kd<=5) (h:CuX a pre):CuX (slT t.kd t.nu t.h a) (t::pre):=by
 refine ⟨Nat.le_add_left _ _,fun F q rest hq hF hw=>?_⟩
 rw [IJ] at hF
 obtain ⟨F,rfl⟩:∃ g,F=g+1:=⟨F-1,om⟩
 have hf:=hw t Ji
 obtain ⟨q1,b1,b2⟩:=h.2 F q.go rest (Hw hq).2 om (fun t ht=>hw t (Je _ ht))
 exact ⟨q1,bh_3 hq hf hk b1,b2⟩
theorem cx_2 {a b:LU} {t:aX} {p1 p2:List aX} (hk:t.kd=6) (h:CuX a p1) (h2:CuX b p2):CuX (eiT a b) (t::(p1++p2)):=by
 refine ⟨Nat.le_add_left _ _,fun F q rest hq hF hw=>?_⟩
 have hq:q.ts=t::((p1++p2)++rest):=hq
 rw [IJ,II] at hF
 obtain ⟨F,rfl⟩:∃ g,F=g+1:=⟨F-1,om⟩
 have hf:=hw t Ji
 obtain ⟨q1,b1,b2⟩:=h.2 F q.go (p2++rest) (by rw [(Hw hq).2,IR]) om (fun t ht=>hw t (Je _ (List.mem_append_left _ ht)))
 obtain ⟨q2,c1,c2⟩:=h2.2 F q1 rest b2 om (fun t ht=>hw t (Je _ (List.mem_append_right _ ht)))
 exact ⟨q2,bh_6 hq hf hk b1 c1,c2⟩
theorem cu_text : ∀ (f : Nat) (s : Cu), (dD f s).b = false -> s.b = false /\ ∃ pre x, (dD f s).ts = s.ts ++ pre /\ s.l = x ++ (dD f s).l /\ CuX x pre
 | f + 1, s, h => by
   have ih:=cu_text f
   unfold dD at h ⊢
   by_cases c:s.b=true\/8<=s.ts.length
   ·rw [if_pos c] at h;exact IQ (h)
   rw [if_neg c] at h ⊢
   have hsb:s.b=false:=by grind
   refine ⟨hsb,?_⟩
   by_cases c0:eG s.l=0
   ·rw [if_pos c0] at h
    exact IQ (EZ (show kX true s.l [41]=false from h)).1
   rw [if_neg c0] at h ⊢
   have hk:=lH s.l
   have e0:=kd_pre c0
   have hx:=chd_text (k:=eG s.l) (L:=aN s.l) om
   generalize zX (eG s.l) (aN s.l)=x at h hx ⊢
   try simp only [] at h ⊢
   by_cases c1:eG s.l=1\/eG s.l=2
   ·rw [if_pos c1] at h ⊢
    obtain ⟨b1,b2⟩:=EZ (show kX x.b x.l [41]=false from h)
    have hc:=hx b1
    refine ⟨[x.t],if eG s.l=1 then lL (gK x.t.ks 0) else lM x.t.m x.t.ks,set_at0 _ _ _,?_,cx_0 ?_⟩
    ·show s.l = _ ++ kM x.b x.l [41]
     rcases c1 with c1 | c1
     ·rw [if_pos c1, e0, hc.t1 c1, c1]
      conv=>lhs;rw [b2]
      unfold lL sN
      simp
     ·rw [if_neg om, e0, hc.t2 c1, c1]
      conv=>lhs;rw [b2]
      unfold lM sN
      simp
    ·rcases c1 with c1 | c1
     ·exact Jj ⟨hc.kd.trans c1,if_pos c1⟩
     ·exact I5 ⟨hc.kd.trans c1,if_neg om⟩
   rw [if_neg c1] at h ⊢
   by_cases c6:eG s.l=6
   ·rw [if_pos c6] at h ⊢
    have ih1:=ih ⟨x.l,x.b,s.ts++[zt]⟩
    generalize dD f ⟨x.l,x.b,s.ts++[zt]⟩=y at h ih1 ⊢
    have ih2:=ih ⟨kM y.b y.l [44],kX y.b y.l [44],y.ts⟩
    generalize dD f ⟨kM y.b y.l [44],kX y.b y.l [44],y.ts⟩=z at h ih2 ⊢
    obtain ⟨z1,z2⟩:=EZ (h)
    obtain ⟨y0,p2,x2,t2,l2,k2⟩:=ih2 z1
    obtain ⟨y1,y2⟩:=EZ (y0)
    obtain ⟨x0,p1,x1,t1,l1,k1⟩:=ih1 y1
    have hc:=hx x0
    have l2:kM y.b y.l [44]=x2++z.l:=l2
    have l1:x.l=x1++y.l:=l1
    refine ⟨x.t::(p1++p2),eiT x1 x2,?_,?_,cx_2 (hc.kd.trans c6) k1 k2⟩
    ·show z.ts.set s.ts.length x.t = _
     rw [t2,t1,IR (s.ts++[zt]),set_at]
    ·show s.l = eiT x1 x2 ++ kM z.b z.l [41]
     rw [e0,hc.t6 c6,c6,l1]
     conv=>lhs;rw [y2,l2,z2]
     unfold eiT sN
     simp
   ·rw [if_neg c6] at h ⊢
    have c345:eG s.l=3\/eG s.l=4\/eG s.l=5:=om
    have ih1:=ih ⟨kM x.b x.l [44],kX x.b x.l [44],s.ts++[zt]⟩
    generalize dD f ⟨kM x.b x.l [44],kX x.b x.l [44],s.ts++[zt]⟩=y at h ih1 ⊢
    obtain ⟨y1,y2⟩:=EZ (h)
    obtain ⟨x0,p1,x1,t1,l1,k1⟩:=ih1 y1
    obtain ⟨b1,b2⟩:=EZ (x0)
    have hc:=hx b1
    have l1:kM x.b x.l [44]=x1++y.l:=l1
    refine ⟨x.t::p1,slT x.t.kd x.t.nu x.t.h x1,?_,?_,cx_1 (by rw [hc.kd];omega) k1⟩
    ·show y.ts.set s.ts.length x.t = _
     rw [t1,set_at]
    ·show s.l = slT x.t.kd x.t.nu x.t.h x1 ++ kM y.b y.l [41]
     rw [e0,hc.kd]
     rcases c345 with c | c | c
     ·rw [hc.t3 (Jj c), c]
      conv=>lhs;rw [b2,l1,y2]
      unfold slT arT sN
      simp
     ·rw [hc.t3 (I5 c), c]
      conv=>lhs;rw [b2,l1,y2]
      unfold slT arT sN
      simp
     ·rw [hc.t5 c, c]
      conv=>lhs;rw [b2,l1,y2]
      unfold slT arT sN
      simp
theorem tz_ok {m:Int} {nu h:Nat} {ks:List dB} (hk:0<=k/\k<=6) (hm:0<=m/\m<4294967296) (hn:nu<4294967296) (hh:h<M) (hp:∀ p∈ks,p.Ok):(tz k m nu h ks).Ok/\∀ p∈(tz k m nu h ks).ks,p.Ok :=
 ⟨⟨by show GK k;unfold GK;omega,by show GK m;unfold GK;omega,hn,hh⟩,hp⟩
theorem cks_ok:∀ (f:Nat) (a:List dB) (L:LU) (b:Bool),(∀ p∈a,p.Ok)->∀ p∈(uH f a L b).ks,p.Ok
 | 0,_,_,_,h=>h
 | f + 1, a, L, b, h => by
   unfold uH
   split
   ·exact h
   split
   ·exact h
   ·exact cks_ok f _ _ _ (fun p hp=>(Jc.1 hp).elim (h p) (fun e=>by rw [IV.1 e];exact ckA_ok _))
theorem chH_lt (L:LU):chH L<M:=by
 unfold chH
 split
 ·rename_i h
  exact nB_M (by rw [IX,Fh h];rfl)
 ·exact sK
theorem chd_ok (hk:0<=k/\k<=6) (L:LU):(zX k L).t.Ok/\∀ p∈(zX k L).t.ks,p.Ok:=by
 have q0:∀ p∈([]:List dB),p.Ok:=fun p hp=>absurd hp (by simp)
 have z0:(0:Int)<=0/\(0:Int)<4294967296:=om
 have n0:0<4294967296:=om
 have hv:=Ac L
 unfold zX
 split
 ·exact tz_ok hk z0 n0 sK (fun p hp=>by rw [IV.1 hp];exact ckA_ok _)
 split
 ·exact tz_ok hk ⟨om,om⟩ n0 sK (cks_ok _ _ _ _ q0)
 split
 ·exact tz_ok hk z0 hv sK q0
 split
 ·exact tz_ok hk z0 n0 (chH_lt L) q0
 ·exact tz_ok hk z0 n0 sK q0
theorem zt_ok:zt.Ok/\∀ p∈zt.ks,p.Ok:=tz_ok dC dC dC sK (fun p hp=>absurd hp (by simp))
theorem ts_set {t:aX} (h:qZ ts) (ht:t.Ok/\∀ p∈t.ks,p.Ok) (n:Nat):qZ (ts.set n t):=fun x hx=>by
 rcases Jw hx with q | q
 ·exact h x q
 ·rw [q];exact ht
theorem ts_snoc {t:aX} (h:qZ ts) (ht:t.Ok/\∀ p∈t.ks,p.Ok):qZ (ts++[t]):=fun x hx=>by
 rcases Jc.1 hx with q | q
 ·exact h x q
 ·rw [IV.1 q];exact ht
theorem cu_ok:∀ (f:Nat) (s:Cu),qZ s.ts->qZ (dD f s).ts
 | 0,_,h=>h
 | f + 1, s, h => by
   have ih:=cu_ok f
   have hk:=lH s.l
   have hx:=chd_ok om (aN s.l)
   have h1:=ts_snoc h zt_ok
   unfold dD
   split
   ·exact h
   split
   ·exact ts_set h1 zt_ok _
   split
   ·exact ts_set h1 hx _
   split
   ·show qZ ((dD f ⟨kM _ _ [44], kX _ _ [44], (dD f ⟨_, _, s.ts ++ [zt]⟩).ts⟩).ts.set _ _)
    refine ts_set (ih _ ?_) hx _
    exact ih ⟨_,_,s.ts++[zt]⟩ h1
   ·exact ts_set (ih ⟨_,_,s.ts++[zt]⟩ h1) hx _
noncomputable def pcU (S:LU):Cu:=dD 9 ⟨pW S,false,[]⟩
noncomputable def Gw (S:LU):Int :=
 if 16384<S.length then 4 else if S.length<9\/gB S (S.length-9)≠35 then 7 else if smS (pW S)≠S.drop (S.length-8) then 241 else
 if (pcU S).b=true\/(pcU S).l≠[]\/xJ (pcU S).ts=false then 260 else 0
noncomputable def pcT (S:LU):List aX:=if Gw S=0 then (pcU S).ts.map aX.er else []
section
variable {S:List UInt8}
theorem pc_4 (h:16384<S.length):Gw S=4:=by unfold Gw;rw [if_pos h]
theorem pc_7 (h: ¬ 16384<S.length) (h1:S.length<9\/gB S (S.length-9)≠35):Gw S=7:=by unfold Gw;rw [if_neg h,if_pos h1]
theorem D7 (h:Gw S≠0):pcT S=[]:=by unfold pcT;rw [if_neg h]
variable (h: ¬ 16384<S.length) (h1: ¬ S.length<9) (h2:gB S (S.length-9)=35)
include h h1 h2
theorem pc_go:Gw S=if smS (pW S)≠S.drop (S.length-8) then 241 else if (pcU S).b=true\/(pcU S).l≠[]\/xJ (pcU S).ts=false then 260 else 0:=by
 unfold Gw
 rw [if_neg h,if_neg (fun q=>q.elim h1 (fun k=>k h2))]
theorem pc_sum (h3:smS (pW S)≠S.drop (S.length-8)):Gw S=241:=by rw [pc_go h h1 h2,if_pos h3]
variable (h3:smS (pW S)=S.drop (S.length-8))
include h3
theorem pc_b (h4:(pcU S).b=true\/(pcU S).l≠[]\/xJ (pcU S).ts=false):Gw S=260:=by rw [pc_go h h1 h2,if_neg (fun q=>q h3),if_pos h4]
theorem pc_0 {us:List aX} (h4:(pcU S).b=false) (h5:(pcU S).l=[]) (he:us.map aX.er=(pcU S).ts.map aX.er) (hv:xJ us=true):Gw S=0/\us.map aX.er=pcT S:=by
 have hv':xJ (pcU S).ts=true:=by rw [<- vl_er,<- he,vl_er];exact hv
 have e:Gw S=0:=by
  rw [pc_go h h1 h2,if_neg (fun q=>q h3),if_neg (fun q=>?_)]
  rcases q with q | q | q
  ·rw [h4] at q;exact IQ q
  ·exact q h5
  ·rw [hv'] at q;exact IQ q
 exact ⟨e,by unfold pcT;rw [if_pos e];exact he⟩
end
theorem cu_whole (hb:(dD 9 ⟨W,false,[]⟩).b=false) (hl:(dD 9 ⟨W,false,[]⟩).l=[]) (hv:xJ (dD 9 ⟨W,false,[]⟩).ts=true):uB (dD 9 ⟨W,false,[]⟩).ts=W:=by
 obtain ⟨_,pre,x,t1,l1,k1⟩:=cu_text 9 _ hb
 rw [hl,I9] at l1
 have l1:W=x:=l1
 rw [List.nil_append] at t1
 rw [t1] at hv ⊢
 obtain ⟨hl8,_,hf,_⟩:=Gh hv
 obtain ⟨q',b1,_⟩:=k1.2 8 ⟨none,0,pre⟩ [] (I9 _).symm hl8.2 (fun t ht=>fd_fw (List.all_eq_true.1 hf t ht))
 unfold uB
 rw [b1,l1];rfl
theorem pc_pr (S : LU) : Gw S = prE S /\ pcT S = prT S := by
 by_cases h:16384<S.length
 ·have e := pc_4 h; have e' := pr_4 h
  exact ⟨e.trans e'.symm,by rw [D7 om,D9 om]⟩
 by_cases h1:S.length<9\/gB S (S.length-9)≠35
 ·have e := pc_7 h h1; have e' := pr_7 h h1
  exact ⟨e.trans e'.symm,by rw [D7 om,D9 om]⟩
 have g1:=fun q=>h1 (Jj q)
 have g2:=Jb (fun q=>h1 (I5 q))
 by_cases h3:smS (pW S)≠S.drop (S.length-8)
 ·have e := pc_sum h g1 g2 h3; have e' := pr_sum h g1 g2 (fun q => h3 q.symm)
  exact ⟨e.trans e'.symm,by rw [D7 om,D9 om]⟩
 have h3:=JJ h3
 have hW:(pW S).length<=19999:=by unfold pW;rw [IX];omega
 by_cases hr:(pcU S).b=true\/(pcU S).l≠[]\/xJ (pcU S).ts=false
 · have e := pc_b h g1 g2 h3 hr
   have e' : prE S = 260 := by
    cases ho:(eF 9 [] (pW S)).o with
    | false=>exact pr_o h g1 g2 h3.symm ho
    | true =>
      by_cases hb:uB (eF 9 [] (pW S)).ts≠pW S
      ·rw [pr_go h g1 g2,if_neg (fun q=>q h3.symm),if_neg (by grind),if_pos hb]
      ·have hb := JJ hb
       cases hv:xJ (eF 9 [] (pW S)).ts with
       | false=>rw [pr_go h g1 g2,if_neg (fun q=>q h3.symm),if_neg (by grind),if_neg (fun q=>q hb),if_pos hv]
       | true =>
         exfalso
         obtain ⟨_,_,h6⟩:=rd_whole hW ho
         have hc:=cu_read hv (fun t ht=>⟨(h6 t ht).1,fun p hp=>((h6 t ht).2.2 p hp).1⟩)
         rw [hb] at hc
         have hc:pcU S=⟨[],false,(eF 9 [] (pW S)).ts.map aX.er⟩:=hc
         rw [hc] at hr
         rcases hr with q | q | q
         ·exact IQ (q)
         ·exact q rfl
         ·rw [show xJ (Cu.mk [] false ((eF 9 [] (pW S)).ts.map aX.er)).ts = true from (vl_er _).trans hv] at q
          exact IQ q
   exact ⟨e.trans e'.symm,by rw [D7 om,D9 om]⟩
 ·have h4 : (pcU S).b = false := by
   cases q:(pcU S).b with
   | false=>rfl
   | true=>exact absurd (Jj q) hr
  have h5:=Jb (fun q=>hr (I5 (Jj q)))
  have h6:xJ (pcU S).ts=true:=by grind
  have hr0:=pc_0 h g1 g2 h3 h4 h5 rfl h6
  have hb:uB (pcU S).ts=pW S:=cu_whole h4 h5 h6
  have ho:qZ (pcU S).ts:=cu_ok 9 _ (fun t ht=>absurd ht (by simp))
  have rb:=read_back h6 ho
  rw [hb] at rb
  have hp:=pr_0 h g1 g2 h3.symm (by grind) (by grind) hb h6
  exact ⟨hr0.1.trans hp.1.symm,hr0.2.symm.trans hp.2⟩
end
section
theorem sls_mid {P:JR} {t:TypeId} {k k2:IntKind} {S:LU} {z1 z2:Int} {lo hi:Nat} (ht:P.underlying t=some .string) (h1:z1=(lo:Int)) (h2:z2=(hi:Int)) (hl:lo<=hi) (hh:hi<=S.length) (w:JQ) :
 (do pure (Jk (<- IW t (.string (dH S)) (some (.int k z1)) (some (.int k2 z2)) none)):Sem Next).run P w=.ok (.value (.string (dH ((S.drop lo).take (hi-lo))))) w:=by
 subst h1;subst h2
 have hs:(dH S).size=S.length:=rfl
 have e:(dH S).extract lo hi=dH ((S.drop lo).take (hi-lo)):=by
  apply ByteArray.ext
  rw [ByteArray.data_extract]
  show (S.toArray.extract lo hi)=((S.drop lo).take (hi-lo)).toArray
  rw [List.extract_toArray,List.extract_eq_take_drop]
 have h:(Instr.slice t (.string (dH S)) (some (.int k (lo:Int))) (some (.int k2 (hi:Int))) none).run P w=.ok (.string (dH ((S.drop lo).take (hi-lo)))) w:=by
  rw [<- e]
  simp [Instr.slice,run_underlying ht,Instr.sliceBounds,run_sliceBound,sliced,hs,(by omega:(0:Int)<=(lo:Int)),(by omega:(0:Int)<=(hi:Int)),(by omega:(lo:Int)<=(hi:Int)),(by omega:(hi:Int)<=(S.length:Int)),hl,hh]
 simp only [IW,JF,run_underlying ht,Jy,h,Sem.run_pure]
section
variable {L S:List UInt8} (hs:L <:+ S)
include hs
theorem tZ:qK S L+L.length=S.length:=by have:=G5 hs;unfold qK;omega
theorem cu_left (hl:S.length<=20000):IntKind.i64.wrap (((S.length:Nat):Int)-((qK S L:Nat):Int))=((L.length:Nat):Int):=by
 have:=tZ hs
 rw [pY om];omega
theorem gB_ps (i:Nat):gB S (qK S L+i)=gB L i:=by
 unfold gB
 conv=>rhs;rw [<- sfx_drop hs]
 rw [Jm,Jm,List.getElem?_drop];rfl
theorem cut_n:(S.drop (qK S L)).take (qK S L+n-qK S L)=L.take n:=by
 rw [show S.drop (qK S L)=L from sfx_drop hs,Nat.add_sub_cancel_left]
theorem cut_cd {i:Nat} (he:i=Ar L):(S.drop (qK S L)).take (qK S L+i-qK S L)=yE L:=by rw [cut_n hs,he];rfl
theorem ps_cd {i:Nat} (hi:i<=L.length) (he:i=Ar L):qK S L+i=qK S (iU L):=by rw [ps_drop hs hi,he];rfl
end
theorem uh_len (S:LU):(BR S).length<=S.length:=by
 unfold BR uhR
 split
 ·exact Jf _
 split
 ·exact Jf _
 split
 ·show (uhP _ _).length <= _
  rw [aZ];omega
 ·exact Jf _
theorem cdO_y {L:LU} (h1:(oK (yE L) != 0)=false) (h2:decide ((32:Int)<((fJ (kQ (yE L)):Nat):Int))=false) (h3:decide (dS (kQ (yE L))=yE L)=true):jV L=true:=by
 have h1:oK (yE L)=0:=by simpa using h1
 have h2:=of_decide_eq_false h2
 unfold jV
 rw [h3,decide_eq_true h1,decide_eq_true om];rfl
theorem cdO_e {L:LU} (h:(oK (yE L) != 0)=true):jV L=false:=by
 cases q:jV L with
 | false=>rfl
 | true=>rw [(Io q).1] at h;exact absurd h dC
theorem cdO_n {L:LU} (h:decide ((32:Int)<((fJ (kQ (yE L)):Nat):Int))=true):jV L=false:=by
 cases q:jV L with
 | false=>rfl
 | true=>have h1:=(Io q).2.1;have h2:=of_decide_eq_true h;omega
theorem cdO_t {L:LU} (h:decide (dS (kQ (yE L))=yE L)=false):jV L=false:=by
 cases q:jV L with
 | false=>rfl
 | true=>exact absurd (Io q).2.2 (of_decide_eq_false h)
theorem cd_u32 {L:LU} (h:jV L=true):IntKind.u32.wrap (wd (kQ (yE L)) 0)=((o8 L:Nat):Int):=by
 have:=Ac L
 rw [cdV_t h] at this ⊢
 rw [wd0,JM]
 omega
theorem wn_f {b:Bool} {L:LU} (h:b=true):kM b L W=L/\kX b L W=true:=by subst h;exact ⟨rfl,rfl⟩
theorem wn_t {L:LU} (h:JU L W=true):kM false L W=JS L W/\kX false L W=false:=⟨rfl,by unfold kX;rw [h];rfl⟩
theorem wn_n {L:LU} (h:JU L W=false):kM false L W=JS L W/\kX false L W=true:=⟨rfl,by unfold kX;rw [h];rfl⟩
noncomputable def cstW (f:Nat) (k:Ky) (a:List Nat) (X:LU) (b wv:Bool):Cth:=if wv=true then ⟨true,k,a,true,X⟩ else cstS f k a X b
section
variable {f:Nat} {k:Ky} {a:List Nat} {X L:List UInt8} {b:Bool}
theorem cw_s (h:cstS f k a X b=cZ L):cstW f k a X b false=cZ L:=h
theorem cw_t (hr:cstW f k a X b true=cZ L):cZ L=⟨true,k,a,true,X⟩:=hr.symm
theorem cw_b {wv:Bool} (hw:wv=true->true=false) (hr:cstW f k a X true wv=cZ L):cZ L=⟨false,k,a,wv,X⟩:=by
 cases wv with
 | false=>exact cs_b (f:=f) hr
 | true=>exact IQ (hw rfl)
theorem DU (hf:false=true\/false=true\/X.length<f):X.length<f:=hf.elim (fun q=>IQ q) (fun q=>q.elim (fun q=>IQ q) id)
variable (hf:false=true∨false=true∨X.length<f) (hr:cstW f k a X false false=cZ L)
include hf hr
theorem cw_e0 (h:JU X [47]=false):cZ L=⟨true,k,a,false,X⟩:=cs_e0 (DU hf) hr h
theorem cw_e1 (h:JU X [47]=true) (h1:JU (JS X [47]) [42]=true):cstW (f-1) k a (JS (JS X [47]) [42]) false true=cZ L:=(cs_e1 (DU hf) hr h h1).symm
end
theorem ck_al {X Y:LU} (ha:n+X.length<=20001) (h:JU X [47]=true) (hy:Y.length<=(JS X [47]).length):(n+1)+Y.length<=20001:=by
 have:=qH h
 simp only [IK] at this
 omega
theorem ck_yl {f:Nat} {X Y:LU} (hf:X.length<f) (h:JU X [47]=true) (hy:Y.length<=(JS X [47]).length):Y.length<f-1:=by
 have:=qH h
 simp only [IK] at this
 omega
theorem ck_y1 (X:LU):(JS (iU X) [104]).length<=X.length:=JL (dY _ _) (yJ X)
theorem csN_h {L:LU}:IntKind.u32.wrap (((o8 L:Nat):Int)+2147483648)=((csN L:Nat):Int):=by
 rw [csN_eq,JM]
 have:=Ac L
 omega
end
variable {w:JQ}
section
theorem kT_put {C:Array JP} {l:List aX} {c j:Nat} (h:kT.A C l c) (hj:j<l.length) (y:aX):kT.A (lK C (j*36) y.row.toList) (l.set j y) c :=
 h.setP hj (Jg y.lQ) (by
  rw [y.lQ]
  have e:(kT.f (l.getD j default)).drop 36=[]:=JE (Jg (kT.len _))
  rw [e,I9];simp [kT])
theorem kT_fit {C:Array JP} {l:List aX} {c j:Nat} (h:kT.A C l c) (hj:j<l.length) (y:aX):j*36+y.row.toList.length<=C.size:=h.fit hj (Jg y.lQ)
theorem tm_all1 (y:aX):y.row.toList.all Value.oneCell'=true:=List.all_eq_true.2 (aX.row_one y)
theorem bY.set {l:List aX} (h:bY w l) {y:aX} (k:wX w y.ka y.kc y.ks) (n:Nat):bY w (l.set n y):=fun t ht=>(Jw ht).elim (h t) (fun e=>by grind)
theorem nw_put {l:List aX} {y:aX} (h:∀ t∈l,t∈ts\/sV n t) (hy:sV n y) (k:Nat):∀ t∈l.set k y,t∈ts\/sV n t:=by grind
theorem vG:sV n zt:=sU
theorem bY.zt {l:List aX} (h:bY w l):bY w (l++[zt]):=h.app (bY.one wX.nil)
theorem ED {A:List aX} (h:ts.map aX.er=A):(ts++[zt]).map aX.er=A++[zt]:=by rw [JH,h];rfl
theorem er_put {l N:List aX} {y t:aX} {m:Nat} (h:l.map aX.er=N) (ht:y.er=t) (hn:n=m):(l.set n y).map aX.er=N.set m t:=by simp_all
theorem Ag {f:Nat} {l:List aX} {s:Cu} (h:l.map aX.er=(dD f s).ts):s.ts.length<=l.length/\(s.ts.length<=8->l.length<=8):=by
 have:=eY h
 rw [this];exact cu_n f s
section
variable {f:Nat} {L:List UInt8} {A N:List aX}
theorem cz_bad {b:Bool} (h:b=true\/8<=A.length):dD (f+1) ⟨L,b,A⟩=⟨L,true,A⟩:=by exact if_pos h
variable (h8:A.length<8) (hN:N=A++[zt])
include h8 hN
theorem cz_0 (hk:eG L=0):dD (f+1) ⟨L,false,A⟩=Cu.fin ⟨L,true,N⟩ A.length zt:=by
 subst hN
 conv=>lhs;unfold dD
 rw [if_neg (by grind)]
 exact if_pos hk
theorem cz_go (hk : eG L = k) (h0 : k ≠ 0) : dD (f + 1) ⟨L, false, A⟩ =
 (if k = 1 \/ k = 2 then Cu.fin ⟨(zX k (aN L)).l, (zX k (aN L)).b, N⟩ A.length (zX k (aN L)).t else
  if k=6 then
   (fun y:Cu=>Cu.fin (dD f ⟨kM y.b y.l [44],kX y.b y.l [44],y.ts⟩) A.length (zX k (aN L)).t) (dD f ⟨(zX k (aN L)).l,(zX k (aN L)).b,N⟩)
  else Cu.fin (dD f ⟨kM (zX k (aN L)).b (zX k (aN L)).l [44],kX (zX k (aN L)).b (zX k (aN L)).l [44],N⟩) A.length (zX k (aN L)).t):=by
 subst hN
 conv=>lhs;unfold dD
 rw [if_neg (by grind)]
 rw [hk,if_neg h0]
theorem cz_1 (hk:eG L=1):dD (f+1) ⟨L,false,A⟩=Cu.fin ⟨(cZ (aN L)).l,!(cZ (aN L)).o,N⟩ A.length (tz 1 0 0 0 [ckA (aN L)]):=(cz_go h8 hN hk dC).trans (if_pos (Jj rfl))
theorem cz_2 (hk:eG L=2) {a:List dB} {X:LU} {b:Bool} (hY:uH ((iU (aN L)).length+1) [] (iU (aN L)) (!jV (aN L))=⟨a,X,b⟩):dD (f+1) ⟨L,false,A⟩=Cu.fin ⟨X,b,N⟩ A.length (tz 2 ((o8 (aN L):Nat):Int) 0 0 a):=by
 rw [cz_go h8 hN hk dC,if_pos (I5 rfl)]
 have e:zX 2 (aN L)=⟨tz 2 ((o8 (aN L):Nat):Int) 0 0 a,X,b⟩:=by
  unfold zX
  rw [if_neg dC,if_pos rfl,hY]
 rw [e]
theorem cz_3 (hk:eG L=k) (h3:k=3\/k=4) {M:List aX} (hM:M=(dD f ⟨kM (!jV (aN L)) (iU (aN L)) [44],kX (!jV (aN L)) (iU (aN L)) [44],N⟩).ts):dD (f+1) ⟨L,false,A⟩=Cu.fin ⟨(dD f ⟨kM (!jV (aN L)) (iU (aN L)) [44],kX (!jV (aN L)) (iU (aN L)) [44],N⟩).l,(dD f ⟨kM (!jV (aN L)) (iU (aN L)) [44],kX (!jV (aN L)) (iU (aN L)) [44],N⟩).b,M⟩ A.length (tz k 0 (o8 (aN L)) 0 []):=by
 subst hM
 rw [cz_go h8 hN hk om,if_neg om,if_neg om]
 have e:zX k (aN L)=⟨tz k 0 (o8 (aN L)) 0 [],iU (aN L),!jV (aN L)⟩:=by
  unfold zX
  rw [if_neg om,if_neg om,if_pos h3]
 rw [e]
theorem cz_5 (hk:eG L=5) {M:List aX} {h:Nat} (hh:chH (aN L)=h) (hM:M=(dD f ⟨kM (!lC 32 (aN L)) (lW 32 (aN L)) [44],kX (!lC 32 (aN L)) (lW 32 (aN L)) [44],N⟩).ts):dD (f+1) ⟨L,false,A⟩=Cu.fin ⟨(dD f ⟨kM (!lC 32 (aN L)) (lW 32 (aN L)) [44],kX (!lC 32 (aN L)) (lW 32 (aN L)) [44],N⟩).l,(dD f ⟨kM (!lC 32 (aN L)) (lW 32 (aN L)) [44],kX (!lC 32 (aN L)) (lW 32 (aN L)) [44],N⟩).b,M⟩ A.length (tz 5 0 0 h []):=by
 subst hM;subst hh
 rw [cz_go h8 hN hk dC,if_neg dC,if_neg dC]
 have e:zX 5 (aN L)=⟨tz 5 0 0 (chH (aN L)) [],lW 32 (aN L),!lC 32 (aN L)⟩:=rfl
 rw [e]
theorem cz_6 (hk:eG L=6) {M R:List aX} (hR:R=(dD f ⟨aN L,false,N⟩).ts) (hM:M=(dD f ⟨kM (dD f ⟨aN L,false,N⟩).b (dD f ⟨aN L,false,N⟩).l [44],kX (dD f ⟨aN L,false,N⟩).b (dD f ⟨aN L,false,N⟩).l [44],R⟩).ts):dD (f+1) ⟨L,false,A⟩=Cu.fin ⟨(dD f ⟨kM (dD f ⟨aN L,false,N⟩).b (dD f ⟨aN L,false,N⟩).l [44],kX (dD f ⟨aN L,false,N⟩).b (dD f ⟨aN L,false,N⟩).l [44],R⟩).l,(dD f ⟨kM (dD f ⟨aN L,false,N⟩).b (dD f ⟨aN L,false,N⟩).l [44],kX (dD f ⟨aN L,false,N⟩).b (dD f ⟨aN L,false,N⟩).l [44],R⟩).b,M⟩ A.length (tz 6 0 0 0 []):=by
 subst hM;subst hR
 rw [cz_go h8 hN hk dC,if_neg dC,if_pos rfl]
 have e:zX 6 (aN L)=⟨tz 6 0 0 0 [],aN L,false⟩:=rfl
 rw [e]
end
theorem chH_t {L:LU} (h:lC 32 L=true):chH L=nB ((iL 32 L).take 32):=by exact if_pos h
theorem chH_f {L:LU} (h:lC 32 L=false):chH L=0:=by unfold chH;rw [h];rfl
theorem cks_b {f:Nat} {a:List dB} {X:LU}:uH f a X true=⟨a,X,true⟩:=by
 cases f with
 | zero=>rfl
 | succ f=>unfold uH;rfl
section
variable {f:Nat} {a:List dB} {X:List UInt8} {Y:Cks}
theorem ckl_b (hr:uH f a X true=Y):Y=⟨a,X,true⟩:=by rw [<- hr,cks_b]
variable (hf:false=true∨X.length<f) (hr:uH f a X false=Y)
include hf hr
theorem ckl_go:∃ g,f=g+1/\uH (g+1) a X false=Y:=by
 have:=hf.elim (fun q=>IQ q) id
 exact ⟨f-1,om,by grind⟩
theorem ckl_e (h:JU X [44]=false):Y=⟨a,X,false⟩:=by
 obtain ⟨g,rfl,e⟩:=ckl_go hf hr
 rw [<- e,uH,if_neg dC,if_pos h]
theorem ckl_n (h:JU X [44]=true):uH (f-1) (a++[ckA (JS X [44])]) (cZ (JS X [44])).l (!(cZ (JS X [44])).o)=Y:=by
 obtain ⟨g,rfl,e⟩:=ckl_go hf hr
 rw [<- e]
 conv=>rhs;unfold uH
 rw [if_neg dC,if_neg (by grind)];rfl
end
theorem ckl_f {f:Nat} {X:LU} (hf:false=true\/X.length<f) (h:JU X [44]=true):(cZ (JS X [44])).l.length<f-1:=by
 have:=hf.elim (fun q=>IQ q) id
 have q1:=qH h
 have q2:=ck_len (JS X [44])
 omega
theorem ckl_al {X:LU} (ha:n+X.length<=20001) (h:JU X [44]=true):(n+1)+(cZ (JS X [44])).l.length<=20001:=by
 have q1:=qH h
 have q2:=ck_len (JS X [44])
 omega
theorem ckp_ok (L:LU) (a:OA) (c:Nat):(dB.mk (cZ L).k (cZ L).s (cZ L).w a c).Ok:=⟨(ckA_ok L).k,(ckA_ok L).d,(ckA_ok L).ps⟩
theorem KjF.app {w0:JQ} {l m:List dB} (h:KjF w0 w l) (k:KjF w0 w m):KjF w0 w (l++m):=fun p hp=>(Jc.1 hp).elim (h p) (k p)
theorem sV.of_kpn {w0:JQ} {t:aX} (h:KpN w0 w t.ka t.kc t.ks):sV w0.heap.size t:=⟨h.n,fun p hp=>(h.p p hp).2⟩
section
variable {P:JR} {ops:Array Oper} {D:List Nat} {l:List (Nat × JP)} {w0:nN} {h:List (Nat × Obj)} {F0:JQ→Prop}
variable {vals:(Nat→bT)→Nat→JP} {effs:(Nat→bT)→Nat→qJ} {fact:(Nat→bT)→Nat→JQ→Prop}
theorem o_born {i:Nat} (hO:mW P ops D l w0 h F0 vals effs (fun _ _ _=>True) i)
 (he:∀ ρ r,(effs (dU ρ i r) i).news.head?.map (·.1)=some (r.n.headD 0):=by intros;kernel_rfl)
 (hF:∀ ρ r,fact (dU ρ i r) i=(fun _=>w0.w.heap.size<=r.n.headD 0):=by intros;kernel_rfl):mW P ops D l w0 h F0 vals effs fact i:=by
 intro op hop ρ T w hG
 have hG':iM ops D w0 h F0 effs (fun _ _ _=>True) i ρ T w:=⟨hG.lt,hG.aS,hG.block,hG.ne,hG.iE,fun j _=>iD⟩
 have h1:=hO op hop ρ T w hG'
 have hb:∀ r (w':JQ),(∀ (k b) o,(effs (dU ρ i r) i).news[k]? = some (b,o)->w.heap.size<=b/\w'.heap[b]? = some o)->w0.w.heap.size<=r.n.headD 0:=fun r w' e4=>by
  have e:=he ρ r
  cases q:(effs (dU ρ i r) i).news with
  | nil=>rw [q] at e;simp at e
  | cons x xs =>
    rw [q] at e e4
    simp only [List.head?_cons,Option.map_some,Option.some.injEq] at e
    have:=(e4 0 x.1 x.2 rfl).1
    rw [e] at this
    exact JL hG.aS.size this
 by_cases hw:nD (vals ρ) op=true
 ·rw [if_pos hw] at h1 ⊢
  have key:∀ v w',Bi ops D h vals effs (fun _ _ _=>True) i ρ T w v w'->Bi ops D h vals effs fact i ρ T w v w':=by
   rintro v w' ⟨r,e1,e2,e3,e4,e5,_⟩
   refine ⟨r,e1,e2,e3,e4,e5,?_⟩
   rw [hF]
   exact dL (fun _=>hb r _ e4)
  unfold opv at h1 ⊢
  split at h1
  ·exact key _ _ h1
  ·exact key _ _ h1
  ·refine h1.mono (fun e w'' he => ?_)
   split at he
   ·exact key _ _ he
   ·exact he
  ·exact h1
 ·rw [if_neg hw] at h1 ⊢
  obtain ⟨r,e1,e2,e3,e4,e5,_⟩:=h1
  refine ⟨r,e1,e2,e3,e4,e5,?_⟩
  rw [hF]
  exact dL (fun _=>hb r _ e4)
end
theorem mv_loc {R:bT->JQ->Prop} {p:bT->Prop} {g n0:Nat} {ob:bT->Obj} (h:∃ r w',R r w'/\p r/\H8 w w' g (r.n.headD 0) (ob r)) (hs:n0<=w.heap.size):∃ r w',R r w'/\(p r/\(r.n.headD 0=g\/n0<=r.n.headD 0))/\H8 w w' g (r.n.headD 0) (ob r):=by
 obtain ⟨r,w',h1,h2,h3⟩:=h
 refine ⟨r,w',h1,⟨h2,?_⟩,h3⟩
 cases h3 with
 | stay e _=>exact Jj e
 | grow e _=>exact I5 om
theorem St.vJ {B:nN} {h:List (Nat × Obj)} {F:JQ->Prop} (hS:St B h F w) (ks:List Nat) {h':List (Nat × Obj)} (hh:uU ks h=h':=by kernel_rfl):St B h' (fun w=>KpN B.w w none 0 []/\F w) w :=
 (hS.sub (hh ▸ nX ks h)).dP (fun _ hF=>⟨KpN.nil,hF⟩)
theorem cdm {L:LU}:(0:Int)<=((o8 L:Nat):Int)/\((o8 L:Nat):Int)<4294967296:=by have:=Ac L;omega
end
theorem ps_self (W:LU):qK W W=0:=Nat.sub_self _
theorem ps_end {l:LU} (h:l <:+ W) (e:(((qK W l:Nat):Int) != ((W.length:Nat):Int))=false):l=[]:=by
 have e:=sH e
 have:=G5 h
 unfold qK at e
 exact List.length_eq_zero_iff.1 om
theorem ps_ne {l:LU} (e:(((qK W l:Nat):Int) != ((W.length:Nat):Int))=true):l≠[]:=fun q=>by
 have e:=xP e
 subst q
 exact e (by unfold qK;simp)
theorem okC_map {us N:List aX} (h:us.map aX.er=N) (hN:qZ N):∀ t∈us,t.Ok:=fun t ht=>by
 have:=(hN t.er (h ▸ List.mem_map_of_mem ht)).1
 exact ⟨this.kd,this.m,this.nu,this.h⟩
theorem cu9_ok (W:LU):qZ (dD 9 (Cu.mk W false [])).ts:=cu_ok 9 _ (fun t ht=>absurd ht (by simp))
theorem cu9_n {us:List aX} (h:us.map aX.er=(dD 9 (Cu.mk W false [])).ts):us.length<=1000000:=by
 have:=(Ag h).2 (Jf 8)
 omega
theorem cu9_sfx (W:LU):(dD 9 (Cu.mk W false [])).l <:+ W:=rV 9 _ (JD W)
theorem her2 {us N:List aX} (h:us.map aX.er=N):us.map aX.er=N.map aX.er:=by rw [<- h,er_er]
theorem vl_no {us N:List aX} (h:us.map aX.er=N) (hv:xJ us=false):xJ N=false:=by rw [<- h,vl_er];exact hv
theorem Iw (W:LU):(smS W).length=8:=F8 W
theorem tx_split (h:txE ts=0):xJ ts=true/\(uB ts).length+9<=16384/\kG ts=uB ts++([35]++smS (uB ts)):=by
 cases hv:xJ ts with
 | false=>rw [(tx_bad hv).1] at h;exact absurd h dC
 | true =>
   by_cases hl:16384<(uB ts).length+9
   ·rw [(tx_long hv hl).1] at h;exact absurd h dC
   ·exact ⟨rfl,by omega,(tx_ok hv hl).2⟩
abbrev byW (S:LU) (k:Nat):Array JP:=bytesRow (dH S) k
theorem byW_hd (S:LU) (k:Nat):Hd (byW S k) S:=by
 unfold Hd
 simp [bytesRow,dH,bs,bv]
theorem bytes_row {P:JR} {ts td e:TypeId} (hs:P.underlying ts=some .string) (hd:P.underlying td=some (.slice e)) (he:P.underlying e=some (.int .u8)) (S:LU) (w:JQ) :
 ∃ k w',(do pure (Jk (<- convert ts td (.string (dH S)))):Sem Next).run P w=.ok (.value (.slice (some ⟨([w.heap.size,k]:List Nat).headD 0,0,none⟩) S.length (S.length+([w.heap.size,k]:List Nat).tail.headD 0))) w'/\Ew w w' (.cells (byW S (S.length+([w.heap.size,k]:List Nat).tail.headD 0)) e ((byW S (S.length+([w.heap.size,k]:List Nat).tail.headD 0)).size,(byW S (S.length+([w.heap.size,k]:List Nat).tail.headD 0)).size+1)):=by
 have hrun:=run_bytes_of_string (P:=P) w ts td e (dH S) hs hd he
 have hsz:(dH S).size=S.length:=by simp [dH,ByteArray.size]
 have hge:=grownCap_ge w S.length 0 e
 rw [hsz] at hrun
 refine ⟨grownCap w S.length 0 e-S.length,w.drew.alloc (.cells (bytesRow (dH S) (grownCap w S.length 0 e)) e ((bytesRow (dH S) (grownCap w S.length 0 e)).size,(bytesRow (dH S) (grownCap w S.length 0 e)).size+1)),?_,?_⟩
 ·rw [JF, hrun]
  show Result.ok (Jk (.slice (some ⟨w.heap.size,0,none⟩) S.length (grownCap w S.length 0 e))) _=.ok (.value (.slice (some ⟨w.heap.size,0,none⟩) S.length (S.length+(grownCap w S.length 0 e-S.length)))) _
  rw [JK om]
 ·show Ew w _ (.cells (byW S (S.length + (grownCap w S.length 0 e - S.length))) e ((byW S (S.length + (grownCap w S.length 0 e - S.length))).size, (byW S (S.length + (grownCap w S.length 0 e - S.length))).size + 1))
  rw [JK om]
  exact ⟨rfl,rfl,rfl,rfl⟩
theorem st_cellF {P:JR} {t:TypeId} {g j lo hi:Nat} {C:Array JP} {T:TypeId} {v:JP} (hs:∀ w,(sizeOf t).run P w=.ok 1 w) (hv:v.cells= #[v]) (h1:v.oneCell'=true) (hj:j<C.size) (hlo:C.size<=lo) (hb:w.heap[g]? = some (.cells C T (lo,hi))) :
 ∃ w',(do JA t (.pointer (some ⟨g,j,none⟩)) v;pure Next.skip:Sem Next).run P w=.ok .skip w'/\DR w w' g (.cells (C.setIfInBounds j v) T (lo,hi)):=by
 refine ⟨w.setRow g (C.setIfInBounds j v),?_,⟨rfl,rfl,rfl,size_setRow w g _,fun b hb=>setRow_other w g b _ hb,setRow_heap w g C _ T _ hb⟩⟩
 have hadd:(⟨g,j,none⟩:Addr).add 0=⟨g,j,none⟩:=by unfold Addr.add;split<;>simp_all
 have hcell:w.cell? ⟨g,j,none⟩=some C[j]:=by simp [World.cell?,hb,hj]
 have hfro:w.frozen? ⟨g,j,none⟩=false:=by simp [World.frozen?,hb];omega
 have hst:(store ((⟨g,j,none⟩:Addr).add 0) v).run P w=.ok () (w.setRow g (C.setIfInBounds j v)):=by
  rw [hadd,run_store P w _ v _ h1,hcell]
  simp [hfro,setCell_eq_setRow w g j C T (lo,hi) v hb]
 simp only [JA,Instr.sureAddr,storeVar,JF,Sem.run_pure,Jy,hs,hv]
 rw [if_neg (by simp)]
 simp only [storeCells,JF,hst,Jy]
 rfl
theorem conv_mark {P:JR} {t e:TypeId} {g c:Nat} {C:Array JP} (ht:P.underlying t=some (.slice e)) (he:P.underlying e=some (.int .u8)) (hb:w.heap[g]? = some (.cells C e (0,0))) :
 ∃ w',(do pure (Jk (<- convert t t (.slice (some ⟨g,0,none⟩) n c))):Sem Next).run P w=.ok (.value (.slice (some ⟨g,0,none⟩) n c)) w'/\DR w w' g (.cells C e (C.size,C.size+1)):=by
 have hsh:w.shape? g=some (e,C.size):=by unfold World.shape?;rw [hb]
 refine ⟨w.freeze ⟨g,C.size,none⟩ 1,?_,?_⟩
 ·simp [convert,run_underlying ht,run_underlying he,markStringish,hsh]
 ·unfold World.freeze
  rw [if_neg dC]
  refine ⟨rfl,rfl,rfl,by simp,fun b hne=>?_,?_⟩
  ·show (w.heap.modify g _)[b]? = w.heap[b]?
   rw [JI,if_neg (Ne.symm hne)]
  ·show (w.heap.modify g _)[g]? = _
   rw [JI,if_pos rfl,hb]
   rfl
theorem hd_put {C:Array JP} {xs:LU} (h:Hd C xs) {x:Int} (hx:0<=x/\x<256) {j:Nat}:Hd (C.setIfInBounds j (.int .u8 x)) (xs.set j (ob x)):=by
 unfold Hd at h ⊢
 rw [Jd,Array.toList_setIfInBounds,List.take_set,h]
 unfold bs
 rw [List.map_set,bv_ob hx]
theorem hd_at {C:Array JP} {xs:LU} (h:Hd C xs) {j:Nat} (hj:j<xs.length):C[j]? = some (.int .u8 ((gB xs j:Nat):Int)):=by
 have e:(C.toList.take xs.length)[j]? = (bs xs)[j]? := by rw [h]
 rw [List.getElem?_take,if_pos hj] at e
 rw [<- Array.getElem?_toList,e]
 unfold bs gB
 rw [List.getElem?_map,JB hj,Jm,JB hj]
 rfl
theorem tx_l (h:(txE ts != 0)=false):(kG ts).length<=16384:=by
 obtain ⟨_,h1,h2⟩:=tx_split (sH h)
 rw [h2,II,II,Iw]
 exact h1
theorem rparse_any (S:LU) (w0:JQ):Calls prog 86 #[kD (dH S)] w0 (jR (D8 (kQ S) (oK S)) w0):=by
 refine Calls.cW 65 (fun _=>True) func86 rfl rfl rfl jT (sS f86 2 [0,2,3] [] (fun r=>[bG r 0,vi 0]) (fun r=>(pO 0 r (cU 0) 54)) (jX 2) (fun r1=>aC (jJ f86 3 [0,2,3,13] [aU S,vn S.length,.bool (decide (100<(S.length:Int)))] (oC (decide (100<(S.length:Int))) (fun b1=>?_) (fun b1=>?_)))))
 ·rw [b1]
  refine aY f86 3 [0,2,3] [] [U 0,JO,vi 4] [(1,(mF 0 r1 (cU 0) 54))] (jE nS) (aG (aB ?_))
  exact mR (v:=(D8 0 4)) (fun _ hS=>⟨IA dC (par_limit (oA (yT b1))),hS.dM⟩)
 rw [b1]
 have:=yF b1
 refine aI (aA (aC (aY f86 2 [0,2,3,16] [] [aU S,.bool (decide (S=([]:LU)))] [] (jY 1<|cB .eql 9 (fun _ w=>eql_str S ([]:LU) w)<|cN) (oC (decide (S=([]:LU))) (fun b2=>?_) (fun b2=>?_)))))
 ·rw [b2]
  refine aY f86 3 [0,2,3] [] [U 0,JO,vi 7] [(1,(mF 0 r1 (cU 0) 54))] (jE nS) (aG (aB ?_))
  exact mR (v:=(D8 0 7)) (fun _ hS=>⟨IA dC (par_empty b2),hS.dM⟩)
 rw [b2]
 have:=yF b2
 refine aI (aA (sS f86 1 [0,2,3,4] [] (fun r=>[bG r 0]) (fun r=>(pO 0 r (cU 0) 54)) (jX 1) (fun r6=>jJ f86 1 [0,2,3,4,5] [vF] (aC (jJ f86 1 [0,2,3,4,5,6] [vi 0] (aJ ?_))))))
 refine oL (σ:=Nat × Nat × Bool) (fun ⟨i,_,ovr⟩=>[(0,(aU S)),(2,(bG r1 0)),(4,(bG r6 0)),(5,(.bool ovr)),(6,(vn i))]) (fun ⟨_,a,_⟩=>[(nb r1 0,(cL (cU 0) 54)),(nb r6 0,(yY a))]) (fun ⟨i,_,_⟩=>S.length-i)
  (fun ⟨i,a,ovr⟩=>(i<=S.length)/\(allD S i)/\(a=rO S i%M)/\(a<M)/\(ovr=decide (M<=rO S i))) (0,0,false) (⟨Jf _,allD_zero S,(Nat.zero_mod M).symm,zL,(decide_eq_false (by rw [rO];exact Nat.not_le_of_lt zL)).symm⟩) [] ?_
 rintro ⟨i,a,ovr⟩ ⟨hi,hD,ha,haM,ho⟩
 refine aC (jJ f86 4 [0,2,4,5,6,21] [vn i,aU S,vn S.length,.bool (decide ((i:Int)<(S.length:Int)))] (oC (decide ((i:Int)<(S.length:Int))) (fun b3=>?_) (fun b3=>?_)))
 ·rw [b3]
  have:=yT b3
  refine aI (aA (aC (aJ (aC ?_))))
  rcases jO (decide ((gB S i:Int)<48)) with b4 | b4
  ·refine aY f86 10 [0,2,4,5,6,33] [] [aU S,vn i,kH S i,vT,vT,JO,JO,JO,JO,vT] [] (jY 2<|pI (IY 9 (aU S) (vn i)) (kH S i) (nK (S:=S) underlying9 (show (i:Int)=(i:Int) from rfl) (show i<S.length from (oA (yT b4))))<|eU vT (jP b4)<|jX 6) (oY (aY f86 3 [0,2,3,4,5,6] [] [U 0,JO,vi 7] [(1,(mF 0 r1 (cU 0) 54))] (jE nS) (aG (aB (aQ (aB (aB (aQ (aB ?_)))))))))
   exact mR (v:=(D8 0 7)) (fun _ hS=>⟨IA dC (par_text (oA (yT b4)) b2 (oA (yT b4)) (no_low b4)),hS.dM⟩)
  refine aY f86 10 [0,2,4,5,6,33] [] (let qa:JP:=.bool (decide (57<(gB S i:Int)));[aU S,vn i,kH S i,vF,vF,aU S,vn i,kH S i,qa,qa]) [] (jY 2<|pI (IY 9 (aU S) (vn i)) (kH S i) (nK (S:=S) underlying9 (show (i:Int)=(i:Int) from rfl) (show i<S.length from (oA (yF b4))))<|eU vF (jP b4)<|jY 3<|pI (IY 9 (aU S) (vn i)) (kH S i) (nK (S:=S) underlying9 (show (i:Int)=(i:Int) from rfl) (show i<S.length from (oA (yF b4))))<|jX 2) (oC (decide (57<(gB S i:Int))) (fun b5=>?_) (fun b5=>?_))
  ·rw [b5]
   refine aY f86 3 [0,2,3,4,5,6] [] [U 0,JO,vi 7] [(1,(mF 0 r1 (cU 0) 54))] (jE nS) (aG (aB (aQ (aB (aB (aQ (aB ?_)))))))
   exact mR (v:=(D8 0 7)) (fun _ hS=>⟨IA dC (par_text (oB (yF b4) (yT b5)) b2 (oB (yF b4) (yT b5)) (no_high b5)),hS.dM⟩)
  rw [b5]
  have:=yF b5
  refine aI (aA (sD f86 [0,0,3,7,15,15,0,0,223,511] 10 [0,2,4,5,6,7,8] [] (fun r=>[U a,U 10,qy131 (a*10),qy131 (a*10),U ((a*10) / M),U ((a*10)%M),bG r 6,bG r 7,JO,JO]) (fun r=>[(6,(fB r 6 (cU 0) 54)),(7,(fB r 7 (cU 0) 54)),(8,(jD 50 r 6 (cU ((a*10) / M)) 54)),(9,(jD 58 r 7 (cU ((a*10)%M)) 54))]) (cR [[1]]<|cC (fun _ w=>lZ 10 w dC)<|cC (fun _ w=>rmul_any a 10 w haM dK)<|jE [[],[],[],[],[],[50],[58]]) (fun _=>sD f86 [0,0,0,6,14,30,62,127,255,511,511,0,3071,8191] 14 [0,2,4,5,6,7,9,10] [1,1,1,0,1] (fun r=>let qa:JP:=.bool (decide (M<=((a*10)%M)+(dV S i)));[U ((a*10)%M),aU S,vn i,kH S i,vy (dV S i),vx (dV S i),U (dV S i),.tuple #[U ((((a*10)%M)+(dV S i))%M),qa],.tuple #[U ((((a*10)%M)+(dV S i))%M),qa],U ((((a*10)%M)+(dV S i))%M),qa,bG r 11,JO,qa]) (fun r=>[(11,(fB r 11 (cU 0) 54)),(12,(jD 92 r 11 (cU ((((a*10)%M)+(dV S i))%M)) 54))]) (cR [[3],[],[]]<|pI (IY 9 (aU S) (vn i)) (kH S i) (nK (S:=S) underlying9 (show (i:Int)=(i:Int) from rfl) (show i<S.length from (oA (yF b4))))<|eU (vy (dV S i)) (congrArg (Jq .u8) (dV_wrap (is_d b4 b5)))<|eU (vx (dV S i)) (congrArg (Jq .u64) (u64N (dV_W (is_d b4 b5))))<|cC (fun _ w=>lZ (dV S i) w (dV_W (is_d b4 b5)))<|cC (f:=120) (args:=fun r=> #[U ((a*10)%M),U (dV S i)]) (v:=fun r=>(.tuple #[U ((((a*10)%M)+(dV S i))%M),.bool (decide (M<=((a*10)%M)+(dV S i)))])) (fun _ w=>(fun w=>radd_any ((a*10)%M) (dV S i) w (Du _) (dV_M (is_d b4 b5))) w)<|jE [[],[],[],[],[92],[]]) (fun _=>?_))))
  rcases jO ovr with b6 | b6
  ·rw [b6]
   refine rDc f86 [0,0,2,6,14,30,62,126,254,510,255,2047] 12 [0,2,4,5,6] [1,1,0,0] [U ((((a*10)%M)+(dV S i))%M),vT,vT,JO,vT,vT,JO,JO,JO,vT,JO,vT] [(10,(jD 1 r6 0 (cU ((((a*10)%M)+(dV S i))%M)) 54))] (jE [[3],[],[],[],[],[],[],[],[],[],[1],[]]) (aH (aA (lV f86 3 [0,2,4,5,6] [] [vn i,vn (i+1),vn (i+1)] [] (jY 1<|oD (bF i 1 (oA (yF b4)))<|jX 1) (?_))))
   exact mN (i+1,(((a*10)%M)+(dV S i))%M,true) (by show S.length-(i+1)<S.length-i;have:=yF b4;omega) (⟨(oA (yF b4)),allD_next hD b4 b5,over_next ha,Du _,over_t ho b6⟩) []
  rw [b6]
  rcases jO (decide (M<=((a*10)%M)+(dV S i))) with b7 | b7
  ·rw [b7]
   have:=yT b7
   refine rDc f86 [0,0,2,6,14,30,62,126,254,510,255,2047] 12 [0,2,4,5,6] [1,1,0,0] [U ((((a*10)%M)+(dV S i))%M),vF,vF,vT,vT,vT,JO,JO,JO,vT,JO,vT] [(10,(jD 1 r6 0 (cU ((((a*10)%M)+(dV S i))%M)) 54))] (jE [[3],[],[],[],[],[],[],[],[],[],[1],[]]) (aH (aA (lV f86 3 [0,2,4,5,6] [] [vn i,vn (i+1),vn (i+1)] [] (jY 1<|oD (bF i 1 (oA (yF b4)))<|jX 1) (?_))))
   exact mN (i+1,(((a*10)%M)+(dV S i))%M,true) (by show S.length-(i+1)<S.length-i;have:=yF b4;omega) (⟨(oA (yF b4)),allD_next hD b4 b5,over_next ha,Du _,over_c ha ho b6 b7⟩) []
  rw [b7]
  have:=yF b7
  refine rDc f86 [0,0,2,6,14,30,62,126,254,510,255,2047] 12 [0,2,4,5,6] [1,1,0,0] (let qa:JP:=.bool (!(decide ((a*10) / M=0)));[U ((((a*10)%M)+(dV S i))%M),vF,vF,vF,vF,vF,U ((a*10) / M),.bool (decide ((a*10) / M=0)),qa,qa,JO,qa]) [(10,(jD 1 r6 0 (cU ((((a*10)%M)+(dV S i))%M)) 54))] (cR [[3],[],[],[],[],[],[2]]<|cC (fun _ w=>o9 ((a*10) / M) w (HY haM dK))<|jE [[],[],[1],[]]) (aH (aA (lV f86 3 [0,2,4,5,6] [] [vn i,vn (i+1),vn (i+1)] [] (jY 1<|oD (bF i 1 (oA (yF b4)))<|jX 1) (?_))))
  exact mN (i+1,(((a*10)%M)+(dV S i))%M,!(decide ((a*10) / M=0))) (by show S.length-(i+1)<S.length-i;have:=yF b4;omega) (⟨(oA (yF b4)),allD_next hD b4 b5,over_next ha,Du _,over_h ha ho b6 b7⟩) []
 rw [b3]
 have:=yF b3
 refine bC (aF (aF (aO (aA (aC (jJ f86 1 [2,4,62] [.bool ovr] (oC ovr (fun b8=>?_) (fun b8=>?_))))))))
 ·rw [b8]
  refine aY f86 3 [2,3,4] [] [U 0,JO,vi 5] [(1,(mF 0 r1 (cU 0) 54))] (jE nS) (aG (aB ?_))
  exact mR (v:=(D8 0 5)) (fun _ hS=>⟨IA dC (par_over om b2 (allD_end hD om) hi ho b8),hS.dM⟩)
 rw [b8]
 refine aI (aA (aY f86 3 [2,3] [1,0] [U a,JO,vi 0] [(1,(mF 0 r1 (cU a) 54))] (jE [[1],[0],[]]) (aG ?_)))
 exact mR (v:=(D8 a 0)) (fun _ hS=>⟨par_ok om b2 (allD_end hD om) (over_lt ha ho b8) om haM,hS.dM⟩)
abbrev zS:=fun p0=>(.tuple #[vz,vi p0]:JP)
abbrev wO:=fun p0 p1=>vy (dg (gB p0 p1))
theorem unhex_any (S:LU) (w0:JQ):Calls prog 84 #[kD (dH S)] w0 (fun ε w'=>∃ α κ,ε=.returned (.tuple #[.slice α (BR S).length κ,vi (uhE S)])/\jG w0 w'/\Fs w0 w' α κ (BR S)):=by
 refine Calls.cW 47 (fun _=>True) func84 rfl rfl rfl jT (jJ f84 2 [0,2,3] [vz,vi 0] (aC (jJ f84 3 [0,2,3,10] [aU S,vn S.length,.bool (decide (400000<(S.length:Int)))] (oC (decide (400000<(S.length:Int))) (fun h1=>?_) (fun h1=>?_)))))
 ·rw [h1]
  refine jJ f84 2 [0,2,3] [vz,vi 4] (aG (aB (mD [(0,(aU S)),(2,vz),(3,(vi 4))] [] ?_)))
  exact mR (v:=(zS 4)) (fun _ hS=>⟨none,0,congrArg IZ (uh_v (xs:=[]) (uh4 (oA (yT h1)))),hS.dM,rC (uh_x (uh4 (oA (yT h1)))) Fs.nil⟩)
 rw [h1]
 have:=yF h1
 refine aI (aA (aC (aY f84 4 [0,2,3,14] [] [aU S,vn S.length,vn (S.length%2),.bool (((S.length%2:Nat):Int) != 0)] [] (jY 2<|cB (a:=fun r=>(vn S.length)) (b:=fun r=>(vi 2)) (v:=fun r=>(vn (S.length%2))) .rem 3 (fun _ w=>xC (k:=.i64) (n:=S.length) (d:=2) dC w)<|jX 1) (oC (((S.length%2:Nat):Int) != 0) (fun h2=>?_) (fun h2=>?_)))))
 ·rw [h2]
  refine jJ f84 2 [0,2,3] [vz,vi 7] (aG (aB (mD [(0,(aU S)),(2,vz),(3,(vi 7))] [] ?_)))
  exact mR (v:=(zS 7)) (fun _ hS=>⟨none,0,congrArg IZ (uh_v (xs:=[]) (uh7 (oA (G9 h2)) (oA (G9 h2)))),hS.dM,rC (uh_x (uh7 (oA (G9 h2)) (oA (G9 h2)))) Fs.nil⟩)
 rw [h2]
 refine aI (aA (sS f84 5 [0,2,3,4] [] (fun r=>let qa:=vs (nb r 3) (I8 (S.length / 2) (0:UInt8)).length (S.length / 2);[aU S,vn S.length,vn (S.length / 2),qa,qa]) (fun r=>(pO 3 r (zB (S.length / 2)) 5)) (jY 2<|cB (a:=fun r=>(vn S.length)) (b:=fun r=>(vi 2)) (v:=fun r=>(vn (S.length / 2))) .quo 3 (fun _ w=>EH (n:=S.length) (d:=2) dC (oA (bQ h2)) w)<|cX (Eg _ (fun _=>do pure (Jk (<- Instr.makeSlice 35 (vn (S.length / 2)) (vn (S.length / 2))))) (fun _ ζ=>(vs (ζ.headD 0) (I8 (S.length / 2) (0:UInt8)).length (S.length / 2))) (fun _ _=>(cL (zB (S.length / 2)) 5)) (fun _ _=>kr) (fun _=>kr) tV (fun _ _ w _=>yH underlying35 uT (I8 (S.length / 2) (0:UInt8)) ((rfl).trans (by rw [Jt])) (rfl) (Jg (Jt ..)) (oA (bQ h2)) w))<|jX 1) (fun r6=>aC (jJ f84 3 [0,2,3,4,20,21] [aU S,vn S.length,vi 0] (aJ ?_)))))
 refine oL (σ:=Nat × (Array JP)) (fun ⟨i,_⟩=>[(0,(aU S)),(4,(vs (nb r6 3) (I8 (S.length / 2) (0:UInt8)).length (S.length / 2))),(20,(vn S.length)),(21,(vn i))]) (fun ⟨_,C⟩=>[(nb r6 3,(cL C 5))]) (fun ⟨i,_⟩=>S.length-i)
  (fun ⟨i,C⟩=>(i<=S.length)/\(∀ j,j<i->AU (gB S j)=true)/\(C=unC S i)) (0,zB (S.length / 2)) (⟨Jf _,fun j hj=>absurd hj (Nat.not_lt_zero j),(unC_zero S).symm⟩) [] ?_
 rintro ⟨i,C⟩ ⟨hi,hD,hC⟩
 refine jJ f84 1 [0,4,20,21,22] [.bool (decide ((i:Int)<(S.length:Int)))] (aC (oC (decide ((i:Int)<(S.length:Int))) (fun h3=>?_) (fun h3=>?_)))
 ·rw [h3]
  have:=yT h3
  have zh1:(i / 2)<(I8 (S.length / 2) (0:UInt8)).length:=(by rw [Jt];have:=bQ h2;omega)
  have zh2:((i / 2:Nat):Int)=(((i / 2):Nat):Int):=rfl
  refine aI (aA (aC (aJ (jJ f84 2 [0,4,5,20,21] [vn i,vn i] (aY f84 9 [0,4,5,6,7,20,21] [] [aU S,vn i,kH S i,.tuple #[wO S i,.bool (AU (gB S i))],.tuple #[wO S i,.bool (AU (gB S i))],wO S i,.bool (AU (gB S i)),wO S i,.bool (AU (gB S i))] [] (jY 2<|pI (IY 9 (aU S) (vn i)) (kH S i) (nK (S:=S) underlying9 (show (i:Int)=(i:Int) from rfl) (show i<S.length from (oA (bQ h2))))<|oO (digit_any (gB S i) (oB (bQ h2) (gV S i)))<|jX 5) (aC (jJ f84 2 [0,4,5,6,20,21,32] [.bool (AU (gB S i)),.bool (!(AU (gB S i)))] (oC (!(AU (gB S i))) (fun h4=>?_) (fun h4=>?_)))))))))
  ·rw [h4]
   refine jJ f84 2 [0,2,3,4,5,6,20,21] [vz,vi 7] (aG (aB (aQ (aB (aB (aQ (aB (mD [(0,(aU S)),(2,vz),(3,(vi 7)),(4,(vs (nb r6 3) (I8 (S.length / 2) (0:UInt8)).length (S.length / 2))),(5,(vn i)),(6,(wO S i)),(20,(vn S.length)),(21,(vn i))] [(nb r6 3,(cL C 5))] ?_))))))))
   exact mR (v:=(zS 7)) (fun _ hS=>⟨none,0,congrArg IZ (uh_v (xs:=[]) (BA (oA (bQ h2)) (oA (bQ h2)) (oA (bQ h2)) (kP h4))),hS.dM,rC (uh_x (BA (oA (bQ h2)) (oA (bQ h2)) (oA (bQ h2)) (kP h4))) Fs.nil⟩)
  rw [h4]
  refine aI (aA (lV f84 13 [0,4,20,21] [] (let qa:=vs (nb r6 3) (I8 (S.length / 2) (0:UInt8)).length (S.length / 2);[qa,vn i,vn (i / 2),qa,vn i,vn (i / 2),jp (nb r6 3) (i / 2),vy (un1 S i (i / 2)),vy (un1 S i (i / 2)*16),wO S i,vy (unV S i),jp (nb r6 3) (i / 2),JO]) [(12,(jD 0 r6 3 (C.setIfInBounds (i / 2) (vy (unV S i))) 5))] (jY 2<|cB (a:=fun r=>(vn i)) (b:=fun r=>(vi 2)) (v:=fun r=>(vn (i / 2))) .quo 3 (fun _ w=>EH (n:=i) (d:=2) dC (oA (bQ h2)) w)<|jY 2<|cB (a:=fun r=>(vn i)) (b:=fun r=>(vi 2)) (v:=fun r=>(vn (i / 2))) .quo 3 (fun _ w=>EH (n:=i) (d:=2) dC (oA (bQ h2)) w)<|qSc (Bz (g:=nb r6 3) (c:=S.length / 2) (k:=.i64) underlying35 uT zh2 zh1)<|uP 0 5 (nb r6 3) (i / 2) C 5 (vy (un1 S i (i / 2))) isAgg5 (by rw [hC];exact unC_get (oA (bQ h2)))<|cB (a:=fun r=>(vy (un1 S i (i / 2)))) (b:=fun r=>(rP 4)) (v:=fun r=>(vy (un1 S i (i / 2)*16))) .shl 5 (fun _ w=>run_un4 S i w)<|jY 1<|eU (vy (unV S i)) (congrArg (Jq .u8) (un_or i))<|qSc (Bz (g:=nb r6 3) (c:=S.length / 2) (k:=.i64) underlying35 uT zh2 zh1)<|CW 0 5 (nb r6 3) (i / 2) C (C.setIfInBounds (i / 2) (vy (unV S i))) 5 (vy (unV S i)) sizeOf5 (by rw [hC,Hr];have:=bQ h2;omega) rfl<|cN) (aH (aA (lV f84 2 [0,4,20,21] [] [vn (i+1),vn (i+1)] [] (oD (bF i 1 (oA (bQ h2)))<|jX 1) (?_))))))
  exact mN (i+1,C.setIfInBounds (i / 2) (vy (unV S i))) (by show S.length-(i+1)<S.length-i;have:=bQ h2;omega) (⟨(oA (bQ h2)),Dk hD (dI h4),by rw [hC];exact unC_set (oA (bQ h2))⟩) []
 rw [h3]
 have:=yF h3
 refine bC (aF (aF (aO (aA (jJ f84 3 [2,3] (let qa:=vs (nb r6 3) (I8 (S.length / 2) (0:UInt8)).length (S.length / 2);[qa,qa,vi 0]) (aG (mD [(2,(vs (nb r6 3) (I8 (S.length / 2) (0:UInt8)).length (S.length / 2))),(3,(vi 0))] [(nb r6 3,(cL C 5))] ?_)))))))
 exact mR (v:=(.tuple #[vs (nb r6 3) (I8 (S.length / 2) (0:UInt8)).length (S.length / 2),vi 0])) (fun _ hS=>⟨rF r6 3 0,S.length / 2,congrArg IZ (by rw [un_row (i:=i)];exact uh_v (uh_ok (oA (bQ h2)) (oA (bQ h2)) (oA (bQ h2)) hD (un_end (oA (bQ h2)) (oA (bQ h2))))),hS.dM,rC (uh_x (uh_ok (oA (bQ h2)) (oA (bQ h2)) (oA (bQ h2)) hD (un_end (oA (bQ h2)) (oA (bQ h2))))) (hS.fresh (.head _) (by rw [hC];exact Hd.all _) (Jg (yA S i)) (by rw [yA];have:=bQ h2;omega))⟩)
theorem runhex_any (S:LU) (w0:JQ):Calls prog 88 #[kD (dH S)] w0 (fun ε w'=>∃ α κ,ε=.returned (.tuple #[.slice α (BR S).length κ,vi (uhE S)])/\jG w0 w'/\Fs w0 w' α κ (BR S)):=by
 refine Calls.cW 52 (fun _=>True) func88 rfl rfl rfl jT (jJ f88 2 [0,2,3] [vz,vi 0] (aC (jJ f88 3 [0,2,3,12] [aU S,vn S.length,.bool (decide (400000<(S.length:Int)))] (oC (decide (400000<(S.length:Int))) (fun t1=>?_) (fun t1=>?_)))))
 ·rw [t1]
  refine jJ f88 2 [0,2,3] [vz,vi 4] (aG (aB (mD [(0,(aU S)),(2,vz),(3,(vi 4))] [] ?_)))
  exact mR (v:=(zS 4)) (fun _ hS=>⟨none,0,congrArg IZ (uh_v (xs:=[]) (uh4 (oA (yT t1)))),hS.dM,rC (uh_x (uh4 (oA (yT t1)))) Fs.nil⟩)
 rw [t1]
 have:=yF t1
 refine aI (aA (aC (aY f88 4 [0,2,3,16] [] [aU S,vn S.length,vn (S.length%2),.bool (((S.length%2:Nat):Int) != 0)] [] (jY 2<|cB (a:=fun r=>(vn S.length)) (b:=fun r=>(vi 2)) (v:=fun r=>(vn (S.length%2))) .rem 3 (fun _ w=>xC (k:=.i64) (n:=S.length) (d:=2) dC w)<|jX 1) (oC (((S.length%2:Nat):Int) != 0) (fun t2=>?_) (fun t2=>?_)))))
 ·rw [t2]
  refine jJ f88 2 [0,2,3] [vz,vi 7] (aG (aB (mD [(0,(aU S)),(2,vz),(3,(vi 7))] [] ?_)))
  exact mR (v:=(zS 7)) (fun _ hS=>⟨none,0,congrArg IZ (uh_v (xs:=[]) (uh7 (oA (G9 t2)) (oA (G9 t2)))),hS.dM,rC (uh_x (uh7 (oA (G9 t2)) (oA (G9 t2)))) Fs.nil⟩)
 rw [t2]
 refine aI (aA (jJ f88 1 [0,2,3,4] [vz] (aC (jJ f88 1 [0,2,3,4,5] [vi 0] (aJ ?_)))))
 refine oL (σ:=Nat ⊕ (Nat × Nat × (LU) × (Array JP) × Nat)) (fun s=>match s with | Ja k=>[(0,(aU S)),(4,vz),(5,(vn (2*k)))] | I4 ⟨k,g,X,_,κ⟩=>[(0,(aU S)),(4,(vs g X.length κ)),(5,(vn (2*k)))]) (fun s=>match s with | Ja _=>[] | I4 ⟨_,g,_,C,_⟩=>[(g,(cL C 5))]) (fun s=>match s with | Ja k=>S.length-2*k | I4 ⟨k,_,_,_,_⟩=>S.length-2*k)
  (fun s=>match s with | Ja k=>(2*k<=S.length)/\(∀ j,j<2*k->AU (gB S j)=true)/\(k=0) | I4 ⟨k,_,X,C,κ⟩=>(2*k<=S.length)/\(∀ j,j<2*k->AU (gB S j)=true)/\(X=uhP S k)/\(Hd C X)/\(C.size=κ)/\(X.length<=κ)) (Ja 0) (⟨Jf _,fun j hj=>absurd hj (Nat.not_lt_zero j),rfl⟩) [] ?_
 rintro (k | ⟨k,g,X,C,κ⟩)
 ·rintro ⟨hk,hD,h0⟩
  refine aC (jJ f88 4 [0,4,5,20] [vn (2*k),aU S,vn S.length,.bool (decide (((2*k:Nat):Int)<(S.length:Int)))] (oC (decide (((2*k:Nat):Int)<(S.length:Int))) (fun t3=>?_) (fun t3=>?_)))
  ·rw [t3]
   have:=yT t3
   refine aI (aA (aC (aJ (aY f88 9 [0,4,5,6,7] [] (let qa:JP:=.bool (AU (gB S (2*k)));let qb:=vy (dg (gB S (2*k)));[aU S,vn (2*k),kH S (2*k),rG qb qa,rG qb qa,qb,qa,qb,qa]) [] (jY 2<|pI (IY 9 (aU S) (vn (2*k))) (kH S (2*k)) (nK (S:=S) underlying9 (show ((2*k:Nat):Int)=(((2*k):Nat):Int) from rfl) (show (2*k)<S.length from (by have:=bQ t2;have:=bP (gB S (2*k));have:=bP (gB S (2*k+1));have:=aZ S k;omega)))<|oO (Ic (gB S (2*k)) (by have:=bQ t2;have:=bP (gB S (2*k));have:=bP (gB S (2*k+1));have:=aZ S k;have:=gV S (2*k);omega))<|jX 5) (aY f88 10 [0,4,5,6,7,8,9] [] (let qa:JP:=.bool (AU (gB S ((2*k)+1)));let qb:=vy (dg (gB S ((2*k)+1)));[aU S,vn (2*k),vn ((2*k)+1),kH S ((2*k)+1),rG qb qa,rG qb qa,qb,qa,qb,qa]) [] (jY 2<|oD (bF (2*k) 1 (by have:=bQ t2;have:=bP (gB S (2*k));have:=bP (gB S (2*k+1));have:=aZ S k;omega))<|pI (IY 9 (aU S) (vn ((2*k)+1))) (kH S ((2*k)+1)) (nK (S:=S) underlying9 (show (((2*k)+1:Nat):Int)=((((2*k)+1):Nat):Int) from rfl) (show ((2*k)+1)<S.length from (by have:=bQ t2;have:=bP (gB S (2*k));have:=bP (gB S (2*k+1));have:=aZ S k;omega)))<|oO (Ic (gB S ((2*k)+1)) (by have:=bQ t2;have:=bP (gB S (2*k));have:=bP (gB S (2*k+1));have:=aZ S k;have:=gV S ((2*k)+1);omega))<|jX 5) (aC ?_))))))
   rcases jO (AU (gB S (2*k))) with t4 | t4
   ·rw [t4]
    refine jJ f88 6 [0,4,5,6,8,43] (let qa:JP:=.bool (!(AU (gB S ((2*k)+1))));[vT,vF,vF,.bool (AU (gB S ((2*k)+1))),qa,qa]) (oC (!(AU (gB S ((2*k)+1)))) (fun t5=>?_) (fun t5=>?_))
    ·rw [t5]
     refine jJ f88 2 [0,2,3,4,5,6,8] [vz,vi 7] (aG (aB (aQ (aB (aB (aQ (aB (mD [(0,(aU S)),(2,vz),(3,(vi 7)),(4,vz),(5,(vn (2*k))),(6,(wO S (2*k))),(8,(wO S ((2*k)+1)))] [] ?_))))))))
     exact mR (v:=(zS 7)) (fun _ hS=>⟨none,0,congrArg IZ (uh_v (xs:=[]) (BA (by have:=bQ t2;have:=bP (gB S (2*k));have:=bP (gB S (2*k+1));have:=aZ S k;omega) (by have:=bQ t2;have:=bP (gB S (2*k));have:=bP (gB S (2*k+1));have:=aZ S k;omega) (by have:=bQ t2;have:=bP (gB S (2*k));have:=bP (gB S (2*k+1));have:=aZ S k;omega) (kP t5))),hS.dM,rC (uh_x (BA (by have:=bQ t2;have:=bP (gB S (2*k));have:=bP (gB S (2*k+1));have:=aZ S k;omega) (by have:=bQ t2;have:=bP (gB S (2*k));have:=bP (gB S (2*k+1));have:=aZ S k;omega) (by have:=bQ t2;have:=bP (gB S (2*k));have:=bP (gB S (2*k+1));have:=aZ S k;omega) (kP t5))) Fs.nil⟩)
    rw [t5]
    refine aI (aA (rS f88 8 [0,4,5] [0,1] (fun r=>let qa:=([ob (AQ S k:Int)]:LU);let qb:=vs (nb r 6) qa.length (qa.length+bV r 6);[vz,wO S (2*k),bU (16*(dg (gB S (2*k)):Int)),wO S ((2*k)+1),vy (AQ S k),vs (nb r 5) qa.length 1,qb,qb]) (fun r=>[(5,(nw r 5 (cL #[vy (AQ S k)] 5))),(6,(fB r 6 ((bs ([ob (AQ S k:Int)]:LU)).toArray++zB (bV r 6)) 5))]) (jY 2<|cA (v:=fun r=>(bU (Jv.wrap (16*(dg (gB S (2*k)):Int))))) (fun _=>(bU (16*(dg (gB S (2*k)):Int)))) (fun _=>congrArg (Jq .u8) (u8I (by have:=bQ t2;have:=bP (gB S (2*k));have:=bP (gB S (2*k+1));have:=aZ S k;omega)))<|jY 1<|cA (v:=fun r=>(bU (Jv.wrap ((16*(dg (gB S (2*k)):Int))+(dg (gB S ((2*k)+1)):Int))))) (fun _=>(vy (AQ S k))) (fun _=>congrArg (Jq .u8) ((u8I (by have:=bQ t2;have:=bP (gB S (2*k));have:=bP (gB S (2*k+1));have:=aZ S k;omega)).trans (by rw [AQ];omega)))<|jY 1<|cX (qN (fun _ ζ=>(vs (ζ.headD 0) ([ob (AQ S k:Int)]:LU).length (([ob (AQ S k:Int)]:LU).length+ζ.tail.headD 0))) (fun _ ζ=>(cL ((bs ([ob (AQ S k:Int)]:LU)).toArray++zB (ζ.tail.headD 0)) 5)) (fun r _ _ hG=>Em (ty:=35) underlying35 uT (Bs.src (tx:=35) underlying35 (Bs.o7 (hG.kn (g:=nb r 5) (o:=(cL #[vy (AQ S k)] 5)) 40) (hd1 (oA (uh1_lt S k))) (IL 1) lb)) (Nat.zero_lt_succ _) lb))<|jX 1) (fun r13=>aH (aA (lV f88 3 [0,4,5] [] [vn (2*k),vn (2*(k+1)),vn (2*(k+1))] [] (jY 1<|DV (((2*k:Nat):Int)+2) (2*(k+1)) ((pY (by have:=bQ t2;have:=bP (gB S (2*k));have:=bP (gB S (2*k+1));have:=aZ S k;omega)).trans om)<|jX 1) (?_))))))
    exact mN (I4 (k+1,nb r13 6,([ob (AQ S k:Int)]:LU),(bs ([ob (AQ S k:Int)]:LU)).toArray++zB (bV r13 6),([ob (AQ S k:Int)]:LU).length+bV r13 6)) (by show S.length-2*(k+1)<S.length-2*k;have:=bQ t2;have:=bP (gB S (2*k));have:=bP (gB S (2*k+1));have:=aZ S k;omega) (⟨(by have:=bQ t2;have:=bP (gB S (2*k));have:=bP (gB S (2*k+1));have:=aZ S k;omega),Dk (Dk hD t4) (dI t5),(by rw [uhP_succ,h0];rfl),Hd.fresh _ _,Aj _ _,Jp _ _⟩) []
   rw [t4]
   refine jJ f88 6 [0,4,5,6,8,43] [vF,vT,vT,JO,JO,vT] (oY (jJ f88 2 [0,2,3,4,5,6,8] [vz,vi 7] (aG (aB (aQ (aB (aB (aQ (aB (mD [(0,(aU S)),(2,vz),(3,(vi 7)),(4,vz),(5,(vn (2*k))),(6,(wO S (2*k))),(8,(wO S ((2*k)+1)))] [] ?_))))))))))
   exact mR (v:=(zS 7)) (fun _ hS=>⟨none,0,congrArg IZ (uh_v (xs:=[]) (BA (by have:=bQ t2;have:=bP (gB S (2*k));have:=bP (gB S (2*k+1));have:=aZ S k;omega) (by have:=bQ t2;have:=bP (gB S (2*k));have:=bP (gB S (2*k+1));have:=aZ S k;omega) (by have:=bQ t2;have:=bP (gB S (2*k));have:=bP (gB S (2*k+1));have:=aZ S k;omega) t4)),hS.dM,rC (uh_x (BA (by have:=bQ t2;have:=bP (gB S (2*k));have:=bP (gB S (2*k+1));have:=aZ S k;omega) (by have:=bQ t2;have:=bP (gB S (2*k));have:=bP (gB S (2*k+1));have:=aZ S k;omega) (by have:=bQ t2;have:=bP (gB S (2*k));have:=bP (gB S (2*k+1));have:=aZ S k;omega) t4)) Fs.nil⟩)
  rw [t3]
  have:=yF t3
  refine bC (aF (aF (aO (aA (jJ f88 3 [2,3] [vz,vz,vi 0] (aG (mD [(2,vz),(3,(vi 0))] [] ?_)))))))
  exact mR (v:=(zS 0)) (fun _ hS=>⟨none,0,congrArg IZ (uh_v (xs:=[]) (uh_ok (by have:=bQ t2;have:=bP (gB S (2*k));have:=bP (gB S (2*k+1));have:=aZ S k;omega) (by have:=bQ t2;have:=bP (gB S (2*k));have:=bP (gB S (2*k+1));have:=aZ S k;omega) (by have:=bQ t2;have:=bP (gB S (2*k));have:=bP (gB S (2*k+1));have:=aZ S k;omega) hD (by rw [show S.length / 2=0 by have:=bQ t2;have:=bP (gB S (2*k));have:=bP (gB S (2*k+1));have:=aZ S k;omega];rfl))),hS.dM,rC (uh_x (uh_ok (by have:=bQ t2;have:=bP (gB S (2*k));have:=bP (gB S (2*k+1));have:=aZ S k;omega) (by have:=bQ t2;have:=bP (gB S (2*k));have:=bP (gB S (2*k+1));have:=aZ S k;omega) (by have:=bQ t2;have:=bP (gB S (2*k));have:=bP (gB S (2*k+1));have:=aZ S k;omega) hD (by rw [show S.length / 2=0 by have:=bQ t2;have:=bP (gB S (2*k));have:=bP (gB S (2*k+1));have:=aZ S k;omega];rfl))) Fs.nil⟩)
 rintro ⟨hk,hD,hX,hC,hs,hle⟩
 refine aC (jJ f88 4 [0,4,5,20] [vn (2*k),aU S,vn S.length,.bool (decide (((2*k:Nat):Int)<(S.length:Int)))] (oC (decide (((2*k:Nat):Int)<(S.length:Int))) (fun t6=>?_) (fun t6=>?_)))
 ·rw [t6]
  have:=yT t6
  refine aI (aA (aC (aJ (aY f88 9 [0,4,5,6,7] [] (let qa:JP:=.bool (AU (gB S (2*k)));let qb:=vy (dg (gB S (2*k)));[aU S,vn (2*k),kH S (2*k),rG qb qa,rG qb qa,qb,qa,qb,qa]) [] (jY 2<|pI (IY 9 (aU S) (vn (2*k))) (kH S (2*k)) (nK (S:=S) underlying9 (show ((2*k:Nat):Int)=(((2*k):Nat):Int) from rfl) (show (2*k)<S.length from (by have:=bQ t2;have:=bP (gB S (2*k));have:=bP (gB S (2*k+1));have:=aZ S k;have:=congrArg IM hX;omega)))<|oO (Ic (gB S (2*k)) (by have:=bQ t2;have:=bP (gB S (2*k));have:=bP (gB S (2*k+1));have:=aZ S k;have:=congrArg IM hX;have:=gV S (2*k);omega))<|jX 5) (aY f88 10 [0,4,5,6,7,8,9] [] (let qa:JP:=.bool (AU (gB S ((2*k)+1)));let qb:=vy (dg (gB S ((2*k)+1)));[aU S,vn (2*k),vn ((2*k)+1),kH S ((2*k)+1),rG qb qa,rG qb qa,qb,qa,qb,qa]) [] (jY 2<|oD (bF (2*k) 1 (by have:=bQ t2;have:=bP (gB S (2*k));have:=bP (gB S (2*k+1));have:=aZ S k;have:=congrArg IM hX;omega))<|pI (IY 9 (aU S) (vn ((2*k)+1))) (kH S ((2*k)+1)) (nK (S:=S) underlying9 (show (((2*k)+1:Nat):Int)=((((2*k)+1):Nat):Int) from rfl) (show ((2*k)+1)<S.length from (by have:=bQ t2;have:=bP (gB S (2*k));have:=bP (gB S (2*k+1));have:=aZ S k;have:=congrArg IM hX;omega)))<|oO (Ic (gB S ((2*k)+1)) (by have:=bQ t2;have:=bP (gB S (2*k));have:=bP (gB S (2*k+1));have:=aZ S k;have:=congrArg IM hX;have:=gV S ((2*k)+1);omega))<|jX 5) (aC ?_))))))
  rcases jO (AU (gB S (2*k))) with t7 | t7
  ·rw [t7]
   refine jJ f88 6 [0,4,5,6,8,43] (let qa:JP:=.bool (!(AU (gB S ((2*k)+1))));[vT,vF,vF,.bool (AU (gB S ((2*k)+1))),qa,qa]) (oC (!(AU (gB S ((2*k)+1)))) (fun t8=>?_) (fun t8=>?_))
   ·rw [t8]
    refine jJ f88 2 [0,2,3,4,5,6,8] [vz,vi 7] (aG (aB (aQ (aB (aB (aQ (aB (mD [(0,(aU S)),(2,vz),(3,(vi 7)),(4,(vs g X.length κ)),(5,(vn (2*k))),(6,(wO S (2*k))),(8,(wO S ((2*k)+1)))] [(g,(cL C 5))] ?_))))))))
    exact mR (v:=(zS 7)) (fun _ hS=>⟨none,0,congrArg IZ (uh_v (xs:=[]) (BA (by have:=bQ t2;have:=bP (gB S (2*k));have:=bP (gB S (2*k+1));have:=aZ S k;have:=congrArg IM hX;omega) (by have:=bQ t2;have:=bP (gB S (2*k));have:=bP (gB S (2*k+1));have:=aZ S k;have:=congrArg IM hX;omega) (by have:=bQ t2;have:=bP (gB S (2*k));have:=bP (gB S (2*k+1));have:=aZ S k;have:=congrArg IM hX;omega) (kP t8))),hS.dM,rC (uh_x (BA (by have:=bQ t2;have:=bP (gB S (2*k));have:=bP (gB S (2*k+1));have:=aZ S k;have:=congrArg IM hX;omega) (by have:=bQ t2;have:=bP (gB S (2*k));have:=bP (gB S (2*k+1));have:=aZ S k;have:=congrArg IM hX;omega) (by have:=bQ t2;have:=bP (gB S (2*k));have:=bP (gB S (2*k+1));have:=aZ S k;have:=congrArg IM hX;omega) (kP t8))) Fs.nil⟩)
   rw [t8]
   refine aI (aA ?_)
   rcases jO (decide (X.length+([ob (AQ S k:Int)]:LU).length<=κ)) with t9 | t9
   ·refine rS f88 8 [0,4,5] [1,0] (fun r=>let qa:=([ob (AQ S k:Int)]:LU);let qb:=vs g (X++qa).length κ;[vs g X.length κ,wO S (2*k),bU (16*(dg (gB S (2*k)):Int)),wO S ((2*k)+1),vy (AQ S k),vs (nb r 5) qa.length 1,qb,qb]) (fun r=>[(5,(nw r 5 (cL #[vy (AQ S k)] 5))),(6,(mQ 0 g (FN C X.length [ob (AQ S k:Int)])))]) (jY 2<|cA (v:=fun r=>(bU (Jv.wrap (16*(dg (gB S (2*k)):Int))))) (fun _=>(bU (16*(dg (gB S (2*k)):Int)))) (fun _=>congrArg (Jq .u8) (u8I (by have:=yT t9;have:=bQ t2;have:=bP (gB S (2*k));have:=bP (gB S (2*k+1));have:=aZ S k;have:=congrArg IM hX;omega)))<|jY 1<|cA (v:=fun r=>(bU (Jv.wrap ((16*(dg (gB S (2*k)):Int))+(dg (gB S ((2*k)+1)):Int))))) (fun _=>(vy (AQ S k))) (fun _=>congrArg (Jq .u8) ((u8I (by have:=yT t9;have:=bQ t2;have:=bP (gB S (2*k));have:=bP (gB S (2*k+1));have:=aZ S k;have:=congrArg IM hX;omega)).trans (by rw [AQ];omega)))<|jY 1<|cX (pR _ 0 (fun r=>do pure (Jk (<- Builtin.append_ #[35,35] 35 #[vs g X.length κ,DI r 5 [ob (AQ S k:Int)] 1]))) (fun _=>g) (fun _=>(cL C 5)) (fun _=>(FN C X.length [ob (AQ S k:Int)])) (fun _=>(vs g (X++([ob (AQ S k:Int)]:LU)).length κ)) (fun _=>kr) (fun _=>kr) (fun _=>kr) (fun _=>kr) tV (fun r _ _ hG hg=>qL underlying35 uT hg (Bs.src (tx:=35) underlying35 (Bs.o7 (hG.kn (g:=nb r 5) (o:=(cL #[vy (AQ S k)] 5)) 41) (hd1 (oA (uh1_lt S k))) (IL 1) lb)) hs (yT t9)))<|jX 1) (fun _=>aH (aA (lV f88 3 [0,4,5] [] [vn (2*k),vn (2*(k+1)),vn (2*(k+1))] [] (jY 1<|DV (((2*k:Nat):Int)+2) (2*(k+1)) ((pY (by have:=yT t9;have:=bQ t2;have:=bP (gB S (2*k));have:=bP (gB S (2*k+1));have:=aZ S k;have:=congrArg IM hX;omega)).trans om)<|jX 1) (?_))))
    exact mN (I4 (k+1,g,X++([ob (AQ S k:Int)]:LU),lK C X.length (bs ([ob (AQ S k:Int)]:LU)),κ)) (by show S.length-2*(k+1)<S.length-2*k;have:=yT t9;have:=bQ t2;have:=bP (gB S (2*k));have:=bP (gB S (2*k+1));have:=aZ S k;have:=congrArg IM hX;omega) (⟨(by have:=yT t9;have:=bQ t2;have:=bP (gB S (2*k));have:=bP (gB S (2*k+1));have:=aZ S k;have:=congrArg IM hX;omega),Dk (Dk hD t7) (dI t8),(by rw [uhP_succ,hX]),Hd.lK hC rfl,(qR _ _ _ (yM hs (yT t9))).trans hs,vX (yT t9)⟩) []
   refine rS f88 8 [0,4,5] [0,0,1] (fun r=>let qa:=([ob (AQ S k:Int)]:LU);let qb:=vs (nb r 6) (X++qa).length ((X++qa).length+bV r 6);[vs g X.length κ,wO S (2*k),bU (16*(dg (gB S (2*k)):Int)),wO S ((2*k)+1),vy (AQ S k),vs (nb r 5) qa.length 1,qb,qb]) (fun r=>[(5,(nw r 5 (cL #[vy (AQ S k)] 5))),(6,(fB r 6 (grow C X.length (bs ([ob (AQ S k:Int)]:LU)) (bV r 6)) 5))]) (jY 2<|cA (v:=fun r=>(bU (Jv.wrap (16*(dg (gB S (2*k)):Int))))) (fun _=>(bU (16*(dg (gB S (2*k)):Int)))) (fun _=>congrArg (Jq .u8) (u8I (by have:=yF t9;have:=bQ t2;have:=bP (gB S (2*k));have:=bP (gB S (2*k+1));have:=aZ S k;have:=congrArg IM hX;omega)))<|jY 1<|cA (v:=fun r=>(bU (Jv.wrap ((16*(dg (gB S (2*k)):Int))+(dg (gB S ((2*k)+1)):Int))))) (fun _=>(vy (AQ S k))) (fun _=>congrArg (Jq .u8) ((u8I (by have:=yF t9;have:=bQ t2;have:=bP (gB S (2*k));have:=bP (gB S (2*k+1));have:=aZ S k;have:=congrArg IM hX;omega)).trans (by rw [AQ];omega)))<|jY 1<|cX (qN (fun _ ζ=>(vs (ζ.headD 0) (X++([ob (AQ S k:Int)]:LU)).length ((X++([ob (AQ S k:Int)]:LU)).length+ζ.tail.headD 0))) (fun _ ζ=>(cL (grow C X.length (bs ([ob (AQ S k:Int)]:LU)) (ζ.tail.headD 0)) 5)) (fun r _ _ hG=>zZ (ty:=35) underlying35 uT (hG.kn (g:=g) (o:=(cL C 5)) 0) (Bs.src (tx:=35) underlying35 (Bs.o7 (hG.kn (g:=nb r 5) (o:=(cL #[vy (AQ S k)] 5)) 41) (hd1 (oA (uh1_lt S k))) (IL 1) lb)) hs hle (Nat.lt_of_not_le (yF t9)) (by simp only [IJ,IK];have:=yF t9;have:=bQ t2;have:=bP (gB S (2*k));have:=bP (gB S (2*k+1));have:=aZ S k;have:=congrArg IM hX;omega)))<|jX 1) (fun r25=>aH (aA (lV f88 3 [0,4,5] [] [vn (2*k),vn (2*(k+1)),vn (2*(k+1))] [] (jY 1<|DV (((2*k:Nat):Int)+2) (2*(k+1)) ((pY (by have:=yF t9;have:=bQ t2;have:=bP (gB S (2*k));have:=bP (gB S (2*k+1));have:=aZ S k;have:=congrArg IM hX;omega)).trans om)<|jX 1) (?_))))
   exact mN (I4 (k+1,nb r25 6,X++([ob (AQ S k:Int)]:LU),grow C X.length (bs ([ob (AQ S k:Int)]:LU)) (bV r25 6),(X++([ob (AQ S k:Int)]:LU)).length+bV r25 6)) (by show S.length-2*(k+1)<S.length-2*k;have:=yF t9;have:=bQ t2;have:=bP (gB S (2*k));have:=bP (gB S (2*k+1));have:=aZ S k;have:=congrArg IM hX;omega) (⟨(by have:=yF t9;have:=bQ t2;have:=bP (gB S (2*k));have:=bP (gB S (2*k+1));have:=aZ S k;have:=congrArg IM hX;omega),Dk (Dk hD t7) (dI t8),(by rw [uhP_succ,hX]),Hd.grow hC rfl,yB hC,Jp _ _⟩) []
  rw [t7]
  refine jJ f88 6 [0,4,5,6,8,43] [vF,vT,vT,JO,JO,vT] (oY (jJ f88 2 [0,2,3,4,5,6,8] [vz,vi 7] (aG (aB (aQ (aB (aB (aQ (aB (mD [(0,(aU S)),(2,vz),(3,(vi 7)),(4,(vs g X.length κ)),(5,(vn (2*k))),(6,(wO S (2*k))),(8,(wO S ((2*k)+1)))] [(g,(cL C 5))] ?_))))))))))
  exact mR (v:=(zS 7)) (fun _ hS=>⟨none,0,congrArg IZ (uh_v (xs:=[]) (BA (by have:=bQ t2;have:=bP (gB S (2*k));have:=bP (gB S (2*k+1));have:=aZ S k;have:=congrArg IM hX;omega) (by have:=bQ t2;have:=bP (gB S (2*k));have:=bP (gB S (2*k+1));have:=aZ S k;have:=congrArg IM hX;omega) (by have:=bQ t2;have:=bP (gB S (2*k));have:=bP (gB S (2*k+1));have:=aZ S k;have:=congrArg IM hX;omega) t7)),hS.dM,rC (uh_x (BA (by have:=bQ t2;have:=bP (gB S (2*k));have:=bP (gB S (2*k+1));have:=aZ S k;have:=congrArg IM hX;omega) (by have:=bQ t2;have:=bP (gB S (2*k));have:=bP (gB S (2*k+1));have:=aZ S k;have:=congrArg IM hX;omega) (by have:=bQ t2;have:=bP (gB S (2*k));have:=bP (gB S (2*k+1));have:=aZ S k;have:=congrArg IM hX;omega) t7)) Fs.nil⟩)
 rw [t6]
 have:=yF t6
 refine bC (aF (aF (aO (aA (jJ f88 3 [2,3] [vs g X.length κ,vs g X.length κ,vi 0] (aG (mD [(2,(vs g X.length κ)),(3,(vi 0))] [(g,(cL C 5))] ?_)))))))
 exact mR (v:=(.tuple #[vs g X.length κ,vi 0])) (fun _ hS=>⟨wF g,κ,congrArg IZ (uh_v (uh_ok (by have:=bQ t2;have:=bP (gB S (2*k));have:=bP (gB S (2*k+1));have:=aZ S k;have:=congrArg IM hX;omega) (by have:=bQ t2;have:=bP (gB S (2*k));have:=bP (gB S (2*k+1));have:=aZ S k;have:=congrArg IM hX;omega) (by have:=bQ t2;have:=bP (gB S (2*k));have:=bP (gB S (2*k+1));have:=aZ S k;have:=congrArg IM hX;omega) hD (by rw [hX,show S.length / 2=k by have:=bQ t2;have:=bP (gB S (2*k));have:=bP (gB S (2*k+1));have:=aZ S k;have:=congrArg IM hX;omega]))),hS.dM,rC (uh_x (uh_ok (by have:=bQ t2;have:=bP (gB S (2*k));have:=bP (gB S (2*k+1));have:=aZ S k;have:=congrArg IM hX;omega) (by have:=bQ t2;have:=bP (gB S (2*k));have:=bP (gB S (2*k+1));have:=aZ S k;have:=congrArg IM hX;omega) (by have:=bQ t2;have:=bP (gB S (2*k));have:=bP (gB S (2*k+1));have:=aZ S k;have:=congrArg IM hX;omega) hD (by rw [hX,show S.length / 2=k by have:=bQ t2;have:=bP (gB S (2*k));have:=bP (gB S (2*k+1));have:=aZ S k;have:=congrArg IM hX;omega]))) (hS.fresh (.head _) hC hle (by have:=bQ t2;have:=aZ S k;have:=congrArg IM hX;omega))⟩)
abbrev iK:=fun p0 p1=>vn (qK p0 p1)
abbrev wE:=fun p0 p1 p2 p3=>(cL #[aU p0,iK p0 p1,.bool p2,p3] 74:Obj)
theorem Dt (g:Nat) (S:LU) (L:LU) (bd:Bool) (V:JP) (W:LU) (hs:L <:+ S) (hl:S.length<=20000) (_hw:W.length<=100) (w0:JQ) (hK:bI [(g,(cL #[kD (dH S),vn (qK S L),.bool bd,V] 74))] w0) (hP:bZ (fun b=>b∈([(g,(cL #[kD (dH S),vn (qK S L),.bool bd,V] 74))]:List (Nat × Obj)).map (·.1)) (fun _=>True) w0):Calls prog 57 #[pt g,kD (dH W)] w0 (fun ε w'=>ε=.returned (.bool (JU L W))/\pG (fun b=>b∈([(g,(cL #[kD (dH S),vn (qK S L),.bool bd,V] 74))]:List (Nat × Obj)).map (·.1)) w0 w'/\bI [(g,(cL #[kD (dH S),vn (qK S (JS L W)),.bool bd,V] 74))] w'):=by
 refine Calls.nZ (n:=48) (F:=(fun _=>True)) [(g,(wE S L bd V))] func57 rfl rfl rfl (by simp) hK (by simp) hP (jJ f57 1 [0,1,4] [vF] (aC ?_))
 rcases jO (decide ((L.length:Int)<(W.length:Int))) with h1 | h1
 ·refine Au f57 [0,1,3,7,15,0,32,96,224,511,0,1024,4095,8191,16383,32767,65535,131071,16383,278527,802815,1851391,16383,4210687,12599295,29376511,16383,67125247,264257535,536870911,16383,2147483647,4294967295] 33 [0,1,4,37] [] [pt g,pt g,pt g,aU S,vn S.length,pt g,pt g,jp g 1,iK S L,vn L.length,aU W,vn W.length,vT,vT,JO,JO,JO,JO,JO,JO,JO,JO,JO,JO,JO,JO,JO,JO,JO,JO,JO,JO,vT] [] (cR [[],[],[],[0],[],[],[],[],[0]]<|eU (vn L.length) (jI (cu_left hs hl))<|jY 2<|eU vT (jP h1)<|jX 20) (oY (jJ f57 1 [0,1,4] [vF] (aG (aB ?_))))
  exact mR (v:=vF) (fun _ hS=>⟨(by rw [pre_short (oA (yT h1))]),hS.aS,(by rw [trim_no (pre_short (oA (yT h1)))];exact hS.dZ [1])⟩)
 refine Au f57 [0,1,3,7,15,0,32,96,224,511,0,1024,4095,8191,16383,32767,65535,131071,16383,278527,802815,1851391,16383,4210687,12599295,29376511,16383,67125247,264257535,536870911,16383,2147483647,4294967295] 33 [0,1,4,37] [] (let qa:JP:=.bool (!decide (L.take W.length=W));[pt g,pt g,pt g,aU S,vn S.length,pt g,pt g,jp g 1,iK S L,vn L.length,aU W,vn W.length,vF,vF,pt g,pt g,pt g,aU S,pt g,pt g,jp g 1,iK S L,pt g,pt g,jp g 1,iK S L,aU W,vn W.length,vn ((qK S L)+W.length),aU (L.take W.length),aU W,qa,qa]) [] (cR [[],[],[],[0],[],[],[],[],[0]]<|eU (vn L.length) (jI (cu_left hs hl))<|jY 2<|eU vF (jP h1)<|cR [[],[],[],[],[0],[],[],[],[0],[],[],[],[0],[],[]]<|oD (bF (qK S L) W.length (oB (yF h1) (tZ hs)))<|pI (IW 9 (aU S) (some (iK S L)) (sJ ((qK S L)+W.length)) none) (aU (L.take W.length)) (fun w=>(sls_mid (S:=S) (lo:=qK S L) (hi:=(qK S L)+W.length) underlying9 rfl rfl (Jp _ _) (oB (tZ hs) (yF h1)) w).trans (by rw [cut_n hs]))<|jY 1<|cB .neq 9 (fun _ w=>Dw (L.take W.length) W w)<|jX 1) (oC (!decide (L.take W.length=W)) (fun h2=>?_) (fun h2=>?_))
 ·rw [h2]
  refine jJ f57 1 [0,1,4] [vF] (aG (aB ?_))
  exact mR (v:=vF) (fun _ hS=>⟨(by rw [(Hf (oA (yF h1))).trans (kP h2)]),hS.aS,(by rw [trim_no ((Hf (oA (yF h1))).trans (kP h2))];exact hS.dZ [1])⟩)
 rw [h2]
 refine aI (aA (aY f57 11 [4] [] [pt g,pt g,pt g,jp g 1,iK S L,aU W,vn W.length,vn ((qK S L)+W.length),pt g,jp g 1,JO] [(10,(mQ 0 g (cL #[aU S,vn ((qK S L)+W.length),.bool bd,V] 74)))] (cR [[],[],[],[],[0],[],[]]<|oD (bF (qK S L) W.length (oB (yF h1) (tZ hs)))<|jE qA) (jJ f57 1 [4] [vT] (aG ?_))))
 exact mR (v:=vT) (fun _ hS=>⟨(by rw [(Hf (oA (yF h1))).trans (dI h2)]),hS.aS,(by rw [<- ps_trim hs ((Hf (oA (yF h1))).trans (dI h2))];exact hS.dZ [1])⟩)
abbrev qy180:=fun p0=>vi (oK (yE p0))
abbrev zK:=fun p0 p1 p2=>vn (qK p0 p1+p2)
theorem wI (g:Nat) (S:LU) (L:LU) (bd:Bool) (V:JP) (hs:L <:+ S) (hl:S.length<=20000) (w0:JQ) (hK:bI [(g,(cL #[kD (dH S),vn (qK S L),.bool bd,V] 74))] w0) (hP:bZ (fun b=>b∈([(g,(cL #[kD (dH S),vn (qK S L),.bool bd,V] 74))]:List (Nat × Obj)).map (·.1)) (fun _=>True) w0):Calls prog 59 #[pt g] w0 (fun ε w'=>ε=.returned (vu (o8 L))/\pG (fun b=>b∈([(g,(cL #[kD (dH S),vn (qK S L),.bool bd,V] 74))]:List (Nat × Obj)).map (·.1)) w0 w'/\bI [(g,(cL #[kD (dH S),vn (qK S (iU L)),.bool (bd|| !jV L),V] 74))] w'):=by
 refine Calls.nZ (n:=86) (F:=(fun _=>True)) [(g,(wE S L bd V))] func59 rfl rfl rfl (by simp) hK (by simp) hP (jJ f59 1 [0,2] [cO 0] (jM f59 5 [0,2,3] [] [pt g,pt g,jp g 1,iK S L,iK S L] EF (Bd (σ:=Nat) (fun _=>[(0,(pt g)),(2,(cO 0)),(3,(iK S L))]) (fun i=>[(g,(cL #[aU S,zK S L i,.bool bd,V] 74))]) (fun _=>(fun _=>True)) (fun i=>(i<=L.length)/\(i=Ar L)) ?_ ?_)))
 ·rintro i ⟨hi,he⟩
  refine Au f59 [0,1,3,7,0,0,32,96,224,511,1023] 11 [0,2,4] [] [pt g,pt g,pt g,aU S,iK S L,pt g,pt g,jp g 1,zK S L i,aU (yE L),aU (yE L)] [] (cR [[],[],[],[0],[],[],[],[],[0]]<|pI (IW 9 (aU S) (some (iK S L)) (sJ (qK S L+i)) none) (aU (yE L)) (fun w=>(sls_mid (S:=S) (lo:=qK S L) (hi:=qK S L+i) underlying9 rfl rfl (Jp _ _) (oA (tZ hs)) w).trans (by rw [cut_cd hs he]))<|jX 1) (sS f59 8 [0,2,4,5,6] [] (fun r=>[aU (yE L),.tuple #[U (kQ (yE L)),qy180 L],.tuple #[U (kQ (yE L)),qy180 L],U (kQ (yE L)),qy180 L,bG r 5,JO,qy180 L]) (fun r=>[(5,(fB r 5 (cU 0) 54)),(6,(jD 41 r 5 (cU (kQ (yE L))) 54))]) (jY 1<|oO (rparse_any (yE L))<|jE [[],[],[],[],[41],[]]) (fun r4=>aC ?_))
  rcases jO ((oK (yE L)) != 0) with h1 | h1
  ·refine aY f59 13 [0,2,5,79] [] [qy180 L,vT,vT,JO,JO,JO,vT,vT,JO,JO,JO,JO,vT] [] (jY 1<|eU vT (jP h1)<|jX 11) (oY (aY f59 4 [2,5] [] [pt g,pt g,jp g 2,JO] [(3,(mQ 0 g (cL #[aU S,zK S L i,vT,V] 74)))] (jE x8) (jJ f59 1 [2,5] [cO 0] (aG (aB ?_)))))
   exact mR (v:=(cO 0)) (fun _ hS=>⟨(by rw [cdV_f (cdO_e h1)];rfl),hS.aS,(by rw [<- (ps_cd hs hi he),(cdO_e h1),Jn,Js];exact hS.dZ [1,0])⟩)
  rcases jO (decide (32<((fJ (kQ (yE L)):Nat):Int))) with h2 | h2
  ·refine aY f59 13 [0,2,5,79] [] [qy180 L,vF,vF,U (kQ (yE L)),vn (fJ (kQ (yE L))),vT,vT,vT,JO,JO,JO,JO,vT] [] (jY 1<|eU vF (jP h1)<|cR [[],[1]]<|cC (fun _ w=>rlen_any (kQ (yE L)) w (parseV_lt (yE L)))<|eU vT (jP h2)<|jX 7) (oY (aY f59 4 [2,5] [] [pt g,pt g,jp g 2,JO] [(3,(mQ 0 g (cL #[aU S,zK S L i,vT,V] 74)))] (jE x8) (jJ f59 1 [2,5] [cO 0] (aG (aB ?_)))))
   exact mR (v:=(cO 0)) (fun _ hS=>⟨(by rw [cdV_f (cdO_n h2)];rfl),hS.aS,(by rw [<- (ps_cd hs hi he),(cdO_n h2),Jn,Js];exact hS.dZ [1,0])⟩)
  refine aY f59 13 [0,2,5,79] [] (let qa:JP:=.bool (!decide (dS (kQ (yE L))=yE L));[qy180 L,vF,vF,U (kQ (yE L)),vn (fJ (kQ (yE L))),vF,vF,vF,U (kQ (yE L)),aU (dS (kQ (yE L))),aU (yE L),qa,qa]) [] (jY 1<|eU vF (jP h1)<|cR [[],[1]]<|cC (fun _ w=>rlen_any (kQ (yE L)) w (parseV_lt (yE L)))<|eU vF (jP h2)<|cR [[],[],[1]]<|oO (rtext_any (kQ (yE L)) (parseV_lt (yE L)))<|jY 1<|cB .neq 9 (fun _ w=>Dw (dS (kQ (yE L))) (yE L) w)<|jX 1) (oC (!decide (dS (kQ (yE L))=yE L)) (fun h3=>?_) (fun h3=>?_))
  ·rw [h3]
   refine aY f59 4 [2,5] [] [pt g,pt g,jp g 2,JO] [(3,(mQ 0 g (cL #[aU S,zK S L i,vT,V] 74)))] (jE x8) (jJ f59 1 [2,5] [cO 0] (aG (aB ?_)))
   exact mR (v:=(cO 0)) (fun _ hS=>⟨(by rw [cdV_f (cdO_t (kP h3))];rfl),hS.aS,(by rw [<- (ps_cd hs hi he),(cdO_t (kP h3)),Jn,Js];exact hS.dZ [1,0])⟩)
  rw [h3]
  refine aI (aA (aY f59 4 [2] [1,0] [bG r4 5,dJ (wd (kQ (yE L)) 0),vu (o8 L),vu (o8 L)] [] (cR [[],[1]]<|eU (vu (o8 L)) (jN (cd_u32 (cdO_y h1 h2 (dI h3))))<|jX 1) (aG ?_)))
  exact mR (v:=(vu (o8 L))) (fun _ hS=>⟨rfl,hS.aS,(by rw [<- (ps_cd hs hi he),(cdO_y h1 h2 (dI h3)),Bool.not_true,Bool.or_false];exact hS.dZ [1])⟩)
 intro J1
 refine aC (aJ ?_)
 refine oL (σ:=Nat) (fun _=>[(0,(pt g)),(2,(cO 0)),(3,(iK S L))]) (fun i=>[(g,(cL #[aU S,zK S L i,.bool bd,V] 74))]) (fun i=>L.length-i)
  (fun i=>(i<=L.length)/\(Ar (L.drop i)+i=Ar L)) 0 (⟨Jf _,rfl⟩) [] ?_
 rintro i ⟨hi,hr⟩
 refine aC ?_
 rcases jO (decide (((qK S L+i:Nat):Int)<(S.length:Int))) with h4 | h4
 ·rcases jO (decide (48<=(gB L i:Int))) with h5 | h5
  ·refine Au f59 [0,1,3,7,0,16,48,112,240,511,1023,2047,4095,8191,16383,2047,34815,100351,231423,524287,1048575,2097151,4194303,8388607,16777215,33554431,67108863,8388607,142606335,411041791,947912703,2147483647,4294967295,8589934591] 34 [0,2,3,44] [] (let qa:JP:=.bool (decide ((gB L i:Int)<=57));[pt g,pt g,jp g 1,zK S L i,pt g,pt g,pt g,aU S,vn S.length,vT,vT,pt g,pt g,pt g,aU S,pt g,pt g,jp g 1,zK S L i,kH L i,vT,vT,vT,pt g,pt g,pt g,aU S,pt g,pt g,jp g 1,zK S L i,kH L i,qa,qa]) [] (cR [[],[],[],[0],[],[],[],[0],[]]<|eU vT (jP h4)<|cR [[],[],[],[],[0],[],[],[],[0]]<|pI (IY 9 (aU S) (zK S L i)) (kH L i) (fun w=>(nK (S:=S) underlying9 (show ((qK S L+i:Nat):Int)=((qK S L+i:Nat):Int) from rfl) (show qK S L+i<S.length from (by have:=yT h4;have:=yT h5;have:=tZ hs;omega)) w).trans (by rw [gB_ps hs i]))<|eU vT (jP h5)<|cR [[],[],[],[],[],[0],[],[],[],[0]]<|pI (IY 9 (aU S) (zK S L i)) (kH L i) (fun w=>(nK (S:=S) underlying9 (show ((qK S L+i:Nat):Int)=((qK S L+i:Nat):Int) from rfl) (show qK S L+i<S.length from (by have:=yT h4;have:=yT h5;have:=tZ hs;omega)) w).trans (by rw [gB_ps hs i]))<|jX 2) (oC (decide ((gB L i:Int)<=57)) (fun h6=>?_) (fun h6=>?_))
   ·rw [h6]
    have:=yT h6
    refine aI (aA (aJ (lV f59 8 [0,2,3] [] [pt g,pt g,jp g 1,zK S L i,vn ((qK S L+i)+1),pt g,jp g 1,JO] [(7,(mQ 0 g (cL #[aU S,vn ((qK S L+i)+1),.bool bd,V] 74)))] (cR x8<|oD (bF (qK S L+i) 1 (by have:=yT h4;have:=yT h5;have:=tZ hs;omega))<|jE qA) (aH ?_))))
    exact mN (i+1) (by show L.length-(i+1)<L.length-i;have:=yT h4;have:=yT h5;have:=tZ hs;omega) (⟨(by have:=yT h4;have:=yT h5;have:=tZ hs;omega),dgN_next (by have:=yT h4;have:=yT h5;have:=tZ hs;omega) h5 h6 hr⟩) []
   rw [h6]
   refine bC (aF (aF (aO (aA ?_))))
   exact CS J1 i (⟨hi,dgN_eB (by have:=yT h4;have:=yT h5;have:=yF h6;have:=tZ hs;omega) h6 hr⟩)
  refine Au f59 [0,1,3,7,0,16,48,112,240,511,1023,2047,4095,8191,16383,2047,34815,100351,231423,524287,1048575,2097151,4194303,8388607,16777215,33554431,67108863,8388607,142606335,411041791,947912703,2147483647,4294967295,8589934591] 34 [0,2,3,44] [] [pt g,pt g,jp g 1,zK S L i,pt g,pt g,pt g,aU S,vn S.length,vT,vT,pt g,pt g,pt g,aU S,pt g,pt g,jp g 1,zK S L i,kH L i,vF,vF,vF,JO,JO,JO,JO,JO,JO,JO,JO,JO,JO,vF] [] (cR [[],[],[],[0],[],[],[],[0],[]]<|eU vT (jP h4)<|cR [[],[],[],[],[0],[],[],[],[0]]<|pI (IY 9 (aU S) (zK S L i)) (kH L i) (fun w=>(nK (S:=S) underlying9 (show ((qK S L+i:Nat):Int)=((qK S L+i:Nat):Int) from rfl) (show qK S L+i<S.length from (by have:=yT h4;have:=yF h5;have:=tZ hs;omega)) w).trans (by rw [gB_ps hs i]))<|eU vF (jP h5)<|jX 13) (oN (bC (aF (aF (aO (aA ?_))))))
  exact CS J1 i (⟨hi,dgN_eA (by have:=yT h4;have:=yF h5;have:=tZ hs;omega) h5 hr⟩)
 refine Au f59 [0,1,3,7,0,16,48,112,240,511,1023,2047,4095,8191,16383,2047,34815,100351,231423,524287,1048575,2097151,4194303,8388607,16777215,33554431,67108863,8388607,142606335,411041791,947912703,2147483647,4294967295,8589934591] 34 [0,2,3,44] [] [pt g,pt g,jp g 1,zK S L i,pt g,pt g,pt g,aU S,vn S.length,vF,vF,JO,JO,JO,JO,JO,JO,JO,JO,JO,JO,vF,vF,JO,JO,JO,JO,JO,JO,JO,JO,JO,JO,vF] [] (cR [[],[],[],[0],[],[],[],[0],[]]<|eU vF (jP h4)<|jX 24) (oN (bC (aF (aF (aO (aA ?_))))))
 exact CS J1 i (⟨hi,dgN_e0 (oB (yF h4) (tZ hs)) hr⟩)
abbrev FK:=fun p0 p1 p2=>(cL #[aU p0,iK p0 p1,vT,p2] 74:Obj)
theorem CO (g:Nat) (S:LU) (L:LU) (bd:Bool) (V:JP) (n:Nat) (hs:L <:+ S) (hl:S.length<=20000) (hn:n<=1000) (w0:JQ) (hK:bI [(g,(cL #[kD (dH S),vn (qK S L),.bool bd,V] 74))] w0) (hP:bZ (fun b=>b∈([(g,(cL #[kD (dH S),vn (qK S L),.bool bd,V] 74))]:List (Nat × Obj)).map (·.1)) (fun _=>True) w0):Calls prog 61 #[pt g,vn n] w0 (fun ε w'=>∃ α κ,ε=.returned (gW (iL n L) α κ)/\pG (fun b=>b∈([(g,(cL #[kD (dH S),vn (qK S L),.bool bd,V] 74))]:List (Nat × Obj)).map (·.1)) w0 w'/\bI [(g,(cL #[kD (dH S),vn (qK S (lW n L)),.bool (bd|| !lC n L),V] 74))] w'/\Fs w0 w' α κ (iL n L)):=by
 refine Calls.nZ (n:=67) (F:=(fun _=>True)) [(g,(wE S L bd V))] func61 rfl rfl rfl (by simp) hK (by simp) hP (jJ f61 1 [0,1,4] [vz] (aC (Au f61 [0,1,3,7,15,0,32,96,224,511,0,1024,4095] 13 [0,1,4,20] [] [pt g,pt g,pt g,aU S,vn S.length,pt g,pt g,jp g 1,iK S L,vn L.length,vn n,vn (2*n),.bool (decide ((L.length:Int)<((2*n:Nat):Int)))] [] (cR [[],[],[],[0],[],[],[],[],[0]]<|eU (vn L.length) (jI (cu_left hs hl))<|jY 1<|DV (2*(n:Int)) (2*n) ((pY om).trans om)<|jX 1) (oC (decide ((L.length:Int)<((2*n:Nat):Int))) (fun h1=>?_) (fun h1=>?_)))))
 ·rw [h1]
  have:=yT h1
  refine aY f61 4 [0,1,4] [] [pt g,pt g,jp g 2,JO] [(3,(mQ 0 g (FK S L V)))] (jE x8) (jJ f61 1 [0,1,4] [vz] (aG (aB ?_)))
  exact mR (v:=vz) (fun _ hS=>⟨none,0,(by rw [(ch_n (fun q=>by have:=q.1;omega)).2.1];rfl),hS.aS,(by rw [(ch_n (fun q=>by have:=q.1;omega)).2.2,(ch_n (fun q=>by have:=q.1;omega)).1,Jn,Js];exact hS.dZ [1]),(by rw [(ch_n (fun q=>by have:=q.1;omega)).2.1];exact Fs.nil)⟩)
 rw [h1]
 have:=yF h1
 refine aI (aA (Au f61 [0,1,3,7,0,16,48,112,0,256,768,1792,0,4096,16128,32767,65535] 17 [0,1,4,5] [] [pt g,pt g,pt g,aU S,pt g,pt g,jp g 1,iK S L,pt g,pt g,jp g 1,iK S L,vn n,vn (2*n),vn ((qK S L)+(2*n)),aU (L.take (2*n)),aU (L.take (2*n))] [] (cR [[],[],[],[0],[],[],[],[0],[],[],[],[0],[]]<|DV (2*(n:Int)) (2*n) ((pY om).trans om)<|oD (bF (qK S L) (2*n) (oA (tZ hs)))<|pI (IW 9 (aU S) (some (iK S L)) (sJ ((qK S L)+(2*n))) none) (aU (L.take (2*n))) (fun w=>(sls_mid (S:=S) (lo:=qK S L) (hi:=(qK S L)+(2*n)) underlying9 rfl rfl (Jp _ _) (oA (tZ hs)) w).trans (by rw [cut_n hs]))<|jX 1) (wW f61 7 [0,1,4,5,6,7] [] (fun r=>let qa:JP:=.slice (oa r 1) (BR (L.take (2*n))).length (nb r 1);let qb:=vi (uhE (L.take (2*n)));[aU (L.take (2*n)),rG qa qb,rG qa qb,qa,qb,qa,qb]) eN (fun r=>[(1,fun w=>Fs w0 w (oa r 1) (nb r 1) (BR (L.take (2*n))))]) (fun r=>(fun w=>Fs w0 w (oa r 1) (nb r 1) (BR (L.take (2*n)))/\True)) (fun _=>True) (fun _ _ _ hf=>⟨⟨hf 1,trivial⟩,trivial⟩) (jY 1<|qBc (fun _=>runhex_any (L.take (2*n)) _)<|jX 5) (fun r6 _=>aC ?_))))
 rcases jO ((uhE (L.take (2*n))) != 0) with h2 | h2
 ·refine aY f61 8 [0,1,4,6,52] [] [vi (uhE (L.take (2*n))),vT,vT,JO,JO,JO,JO,vT] [] (jY 1<|eU vT (jP h2)<|jX 6) (oY (aY f61 4 [0,1,4,6] [] [pt g,pt g,jp g 2,JO] [(3,(mQ 0 g (FK S L V)))] (jE x8) (jJ f61 1 [0,1,4,6] [vz] (aG (aB ?_)))))
  exact mR (v:=vz) (fun _ hS=>⟨none,0,(by rw [(ch_n (fun q=>by have:=h2;rw [q.2.1] at this;exact absurd this dC)).2.1];rfl),hS.aS,(by rw [(ch_n (fun q=>by have:=h2;rw [q.2.1] at this;exact absurd this dC)).2.2,(ch_n (fun q=>by have:=h2;rw [q.2.1] at this;exact absurd this dC)).1,Jn,Js];exact hS.dZ [1]),(by rw [(ch_n (fun q=>by have:=h2;rw [q.2.1] at this;exact absurd this dC)).2.1];exact Fs.nil)⟩)
 refine aY f61 8 [0,1,4,6,52] [] (let qa:JP:=.bool (!decide (kU (BR (L.take (2*n)))=L.take (2*n)));[vi (uhE (L.take (2*n))),vF,vF,gW (BR (L.take (2*n))) (oa r6 1) (nb r6 1),aU (kU (BR (L.take (2*n)))),aU (L.take (2*n)),qa,qa]) [] (jY 1<|eU vF (jP h2)<|jY 2<|zW (fun hG=>Ip (oa r6 1) (nb r6 1) (BR (L.take (2*n))) (by have q:=uh_len (L.take (2*n));rw [IX] at q;omega) _ hG.fn.1.1)<|jY 1<|cB .neq 9 (fun _ w=>Dw (kU (BR (L.take (2*n)))) (L.take (2*n)) w)<|jX 1) (oC (!decide (kU (BR (L.take (2*n)))=L.take (2*n))) (fun h3=>?_) (fun h3=>?_))
 ·rw [h3]
  refine aY f61 4 [0,1,4,6] [] [pt g,pt g,jp g 2,JO] [(3,(mQ 0 g (FK S L V)))] (jE x8) (jJ f61 1 [0,1,4,6] [vz] (aG (aB ?_)))
  exact mR (v:=vz) (fun _ hS=>⟨none,0,(by rw [(ch_n (fun q=>yF (kP h3) q.2.2)).2.1];rfl),hS.aS,(by rw [(ch_n (fun q=>yF (kP h3) q.2.2)).2.2,(ch_n (fun q=>yF (kP h3) q.2.2)).1,Jn,Js];exact hS.dZ [1]),(by rw [(ch_n (fun q=>yF (kP h3) q.2.2)).2.1];exact Fs.nil)⟩)
 rw [h3]
 refine aI (aA (aY f61 11 [4,6] [] [pt g,pt g,pt g,jp g 1,iK S L,vn n,vn (2*n),vn ((qK S L)+(2*n)),pt g,jp g 1,JO] [(10,(mQ 0 g (cL #[aU S,vn ((qK S L)+(2*n)),.bool bd,V] 74)))] (cR [[],[],[],[],[0],[]]<|DV (2*(n:Int)) (2*n) ((pY om).trans om)<|oD (bF (qK S L) (2*n) (oA (tZ hs)))<|jE qA) (jJ f61 2 [4] (let qa:JP:=.slice (oa r6 1) (BR (L.take (2*n))).length (nb r6 1);[qa,qa]) (aG (mD [(4,(gW (BR (L.take (2*n))) (oa r6 1) (nb r6 1)))] [(g,(cL #[aU S,vn ((qK S L)+(2*n)),.bool bd,V] 74))] ?_)))))
 exact mR (v:=(gW (BR (L.take (2*n))) (oa r6 1) (nb r6 1))) (fun _ hS=>⟨oa r6 1,nb r6 1,(by rw [(ch_t om (by simpa using h2) (yT (dI h3))).2.1]),hS.aS,(by rw [(ch_t om (by simpa using h2) (yT (dI h3))).2.2,(ch_t om (by simpa using h2) (yT (dI h3))).1,<- ps_drop hs om,Bool.not_true,Bool.or_false];exact hS.dZ [1]),(by rw [(ch_t om (by simpa using h2) (yT (dI h3))).2.1];exact hS.facts.now.1)⟩)
abbrev wQ:=fun p0 p1 p2=>(cL #[aU p0,iK p0 p1,vF,p2] 74:Obj)
theorem oI (g:Nat) (S:LU) (L:LU) (bd:Bool) (V:JP) (W:LU) (hs:L <:+ S) (hl:S.length<=20000) (hw:W.length<=100) (w0:JQ) (hK:bI [(g,(cL #[kD (dH S),vn (qK S L),.bool bd,V] 74))] w0) (hP:bZ (fun b=>b∈([(g,(cL #[kD (dH S),vn (qK S L),.bool bd,V] 74))]:List (Nat × Obj)).map (·.1)) (fun _=>True) w0):Calls prog 60 #[pt g,kD (dH W)] w0 (fun ε w'=>ε=.returned oH/\pG (fun b=>b∈([(g,(cL #[kD (dH S),vn (qK S L),.bool bd,V] 74))]:List (Nat × Obj)).map (·.1)) w0 w'/\bI [(g,(cL #[kD (dH S),vn (qK S (kM bd L W)),.bool (kX bd L W),V] 74))] w'):=by
 refine Calls.nZ (n:=18) (F:=(fun _=>True)) [(g,(wE S L bd V))] func60 rfl rfl rfl (by simp) hK (by simp) hP ?_
 rcases jO bd with h1 | h1
 ·subst h1
  refine jM f60 11 [0,14] [] [pt g,pt g,jp g 2,vT,vF,vF,JO,JO,JO,JO,vF] [[],[],[],[0],[],[],[],[],[],[],[]] (oN (aI (mt_end ?_)))
  exact mR (v:=oH) (fun _ hS=>⟨rfl,hS.aS,(by rw [(wn_f (b:=true) rfl).1,(wn_f (b:=true) rfl).2];exact hS.dZ [1])⟩)
 subst h1
 rcases jO (JU L W) with h2 | h2
 ·refine aY f60 11 [0,14] [] [pt g,pt g,jp g 2,vF,vT,vT,pt g,aU W,vT,vF,vF] [(8,(mQ 0 g (wQ S (JS L W) V)))] (cR [[],[],[],[0],[],[],[],[]]<|cX (o_callW _ [0] 57 (fun _=> #[pt g,aU W]) (fun _=>vT) (fun _=>[(g,(wQ S L V))]) (fun _=>[(g,(wQ S (JS L W) V))]) (fun _ _ w hG hK=>(by as_aux_lemma=>(have hcall:=Dt g S L false V W hs hl hw w hK (hG.pK [0] tV);rw [h2] at hcall;exact hcall))))<|jX 2) (oN (aI (mt_end ?_)))
  exact mR (v:=oH) (fun _ hS=>⟨rfl,hS.aS,(by rw [(wn_t h2).1,(wn_t h2).2];exact hS.dZ [1])⟩)
 refine aY f60 11 [0,14] [] [pt g,pt g,jp g 2,vF,vT,vT,pt g,aU W,vF,vT,vT] [(8,(mQ 0 g (wQ S (JS L W) V)))] (cR [[],[],[],[0],[],[],[],[]]<|cX (o_callW _ [0] 57 (fun _=> #[pt g,aU W]) (fun _=>vF) (fun _=>[(g,(wQ S L V))]) (fun _=>[(g,(wQ S (JS L W) V))]) (fun _ _ w hG hK=>(by as_aux_lemma=>(have hcall:=Dt g S L false V W hs hl hw w hK (hG.pK [0] tV);rw [h2] at hcall;exact hcall))))<|jX 2) (oY (lV f60 4 [] [] [pt g,pt g,jp g 2,JO] [(3,(mQ 0 g (FK S (JS L W) V)))] (jE x8) (mt_end ?_)))
 exact mR (v:=oH) (fun _ hS=>⟨rfl,hS.aS,(by rw [(wn_n h2).1,(wn_n h2).2];exact hS.dZ [1])⟩)
theorem nV (g:Nat) (S:LU) (L:LU) (bd:Bool) (V:JP) (W:LU) (h:JU L W=true) (hs:L <:+ S) (hl:S.length<=20000) (hw:W.length<=100) (w0:JQ) (hK:bI [(g,(.cells #[kD (dH S),wR (qK S L:Int),.bool bd,V] 74 (0,0)))] w0) (hP:bZ (fun b=>b∈([(g,(.cells #[kD (dH S),wR (qK S L:Int),.bool bd,V] 74 (0,0)))]:List (Nat × Obj)).map (·.1)) (fun _=>True) w0):Calls prog 57 #[pt g,kD (dH W)] w0 (fun ε w'=>ε=.returned vT/\pG (fun b=>b∈([(g,(.cells #[kD (dH S),wR (qK S L:Int),.bool bd,V] 74 (0,0)))]:List (Nat × Obj)).map (·.1)) w0 w'/\bI [(g,(.cells #[kD (dH S),wR (qK S (JS L W):Int),.bool bd,V] 74 (0,0)))] w'):=by
 have k:=Dt g S L bd V W hs hl hw w0 hK hP
 rw [h] at k;exact k
theorem gJ (g:Nat) (S:LU) (L:LU) (bd:Bool) (V:JP) (W:LU) (h:JU L W=false) (hs:L <:+ S) (hl:S.length<=20000) (hw:W.length<=100) (w0:JQ) (hK:bI [(g,(.cells #[kD (dH S),wR (qK S L:Int),.bool bd,V] 74 (0,0)))] w0) (hP:bZ (fun b=>b∈([(g,(.cells #[kD (dH S),wR (qK S L:Int),.bool bd,V] 74 (0,0)))]:List (Nat × Obj)).map (·.1)) (fun _=>True) w0):Calls prog 57 #[pt g,kD (dH W)] w0 (fun ε w'=>ε=.returned vF/\pG (fun b=>b∈([(g,(.cells #[kD (dH S),wR (qK S L:Int),.bool bd,V] 74 (0,0)))]:List (Nat × Obj)).map (·.1)) w0 w'/\bI [(g,(.cells #[kD (dH S),wR (qK S L:Int),.bool bd,V] 74 (0,0)))] w'):=by
 have k:=Dt g S L bd V W hs hl hw w0 hK hP
 rw [h,trim_no h] at k;exact k
abbrev oM (p0:List JP):=fun p1 p2 p3=>cL (p0.toArray++IU p1 p2) p3
abbrev FB {α:Type} (p4:List α):=fun p0 p1 p2 p3 p5=>vV (iP p0).s (iP p0).p (iP p0).c (iP p0).d (p1:Int) (p2:Int) (vs p3 p4.length p5) vF
abbrev qy35:=fun p0 p1 p2=>vV (iP p0).s (iP p0).p (iP p0).c (iP p0).d (p1:Int) (p2:Int) vz vF
abbrev qy37 {α:Type} (p4:List α):=fun p0 p1 p2 p3 p5=>vV (iP p0).s (iP p0).p (iP p0).c (iP p0).d (p1:Int) (p2:Int) (vs p3 p4.length p5) vT
abbrev qy55:=fun p0 p1 p2=>vV (iP p0).s (iP p0).p (iP p0).c (iP p0).d (p1:Int) (p2:Int) vz vT
abbrev qy59:=fun p0 p1=>vV (iP (iL 74 p0)).s (iP (iL 74 p0)).p (iP (iL 74 p0)).c (iP (iL 74 p0)).d (((iP (iL 74 p0)).i:Nat):Int) (((iP (iL 74 p0)).n:Nat):Int) vz (.bool p1)
abbrev qy111:=fun p0=>vu (o8 (JS p0 [47]))
abbrev qy145:=fun p0=>(.agg (qy35 (iL 74 p0) ((iP (iL 74 p0)).i:Nat) ((iP (iL 74 p0)).n:Nat)):JP)
abbrev qy201:=fun p0 p1 p2=>nw p0 4 (oM (kI.r p1) (IP p2) (bV p0 4) 45)
abbrev DL:=fun p0 p1=>[(1,(jD 1 p0 0 p1 59))]
abbrev qy222:=fun p0=>[(1,(jD 1 p0 0 wC 59))]
abbrev qy229:=[[],[],[],[0],[],[],[],[2],[],[],[],[]]
theorem zY (g:Nat) (S:LU) (L:LU) (V:JP) (hs:L <:+ S) (hl:S.length<=20000) (w0:JQ) (hK:bI [(g,(cL #[kD (dH S),vn (qK S L),vF,V] 74))] w0) (hP:bZ (fun b=>b∈([(g,(cL #[kD (dH S),vn (qK S L),vF,V] 74))]:List (Nat × Obj)).map (·.1)) (fun _=>True) w0):Calls prog 58 #[pt g] w0 (fun ε w'=>∃ α κ,ε=.returned (bW (vV (cZ L).k.s (cZ L).k.p (cZ L).k.c (cZ L).k.d (((cZ L).k.i:Nat):Int) (((cZ L).k.n:Nat):Int) (gW (nI (cZ L).s) α κ) (.bool (cZ L).w)))/\pG (fun b=>b∈([(g,(cL #[kD (dH S),vn (qK S L),vF,V] 74))]:List (Nat × Obj)).map (·.1)) w0 w'/\bI [(g,(cL #[kD (dH S),vn (qK S (cZ L).l),.bool (!(cZ L).o),V] 74))] w'/\Fi w0 w' .u32 α κ (nI (cZ L).s)):=by
 refine Calls.nZ (n:=68) (F:=(fun _=>True)) [(g,(wQ S L V))] func58 rfl rfl rfl (by simp) hK (by simp) hP (sS f58 1 [0,2] [] (fun x=>[bG x 0]) (fun x=>[(0,(fB x 0 wC 59))]) (jX 1) (fun x1=>wW f58 3 [0,2,3] [] (fun x=>let qa:JP:=.slice (oa x 1) (iL 74 L).length (nb x 1);[pt g,qa,qa]) (fun _=>(lS g (wE S (lW 74 L) (!lC 74 L) V))) (fun x=>[(1,fun w=>Fs w0 w (oa x 1) (nb x 1) (iL 74 L))]) (fun x=>(fun w=>Fs w0 w (oa x 1) (nb x 1) (iL 74 L)/\True)) (fun _=>True) (fun _ _ _ hf=>⟨⟨hf 1,trivial⟩,trivial⟩) (jY 1<|cX (qWB [0] (fun _ _ w hG hK=>CO g S L false V 74 hs hl dC w hK (hG.pK [0] tV)))<|jX 1) (fun x2 _=>aC (jM f58 4 [0,2,3,13] [] [pt g,pt g,jp g 2,.bool (!lC 74 L)] x8 (oC (!lC 74 L) (fun h1=>?_) (fun h1=>?_))))))
 ·rw [h1]
  refine aY f58 2 [0,2,3] [] [.agg wC,JO] (qy222 x1) (jE [[],[1]]) (aG (aB ?_))
  exact mR (v:=(.agg wC)) (ps:=.replicate 45 1) (fun _ hS=>(by have hR:=ck_b (kP h1);rw [hR];exact ⟨none,0,rfl,hS.aS,hS.dZ [1,0],Fi.nil⟩))
 rw [h1]
 refine aI (aA (sS f58 8 [0,2,4,5] [] (fun x=>let qa:JP:=.agg (kY (iP (iL 74 L)));[gW (iL 74 L) (oa x2 1) (nb x2 1),.tuple #[qa,vi (Ba (iL 74 L))],.tuple #[qa,vi (Ba (iL 74 L))],qa,vi (Ba (iL 74 L)),bG x 5,JO,vi (Ba (iL 74 L))]) (fun x=>[(5,(fB x 5 zF 56)),(6,(jD 42 x 5 (kY (iP (iL 74 L))) 56))]) (jY 1<|zW (fun hG=>rkdecode_any (oa x2 1) (nb x2 1) (iL 74 L) _ hG.fn.1.1)<|jE [[],[],[],[],[42],[]]) (fun _=>aC (jJ f58 2 [0,2,4,21] [vi (Ba (iL 74 L)),.bool ((Ba (iL 74 L)) != 0)] (oC ((Ba (iL 74 L)) != 0) (fun h2=>?_) (fun h2=>?_))))))
 ·rw [h2]
  refine aY f58 4 [0,2,4] [] [pt g,pt g,jp g 2,JO] [(3,(mQ 0 g (FK S (lW 74 L) V)))] (jE x8) (aY f58 2 [0,2,4] [] [.agg wC,JO] (qy222 x1) (jE [[],[1]]) (aG (aB ?_)))
  exact mR (v:=(.agg wC)) (ps:=.replicate 45 1) (fun _ hS=>(by have hR:=ck_k (dI h1) (xP h2);rw [hR];exact ⟨none,0,rfl,hS.aS,hS.dZ [1,0,0],Fi.nil⟩))
 rw [h2]
 refine aI (aA (sS f58 4 [0,2,6] [1,1,0,1] (fun x=>[bW (kY (iP (iL 74 L))),qy145 L,bG x 2,JO]) (fun x=>[(2,(fB x 2 wC 59)),(3,(jD 19 x 2 (qy35 (iL 74 L) ((iP (iL 74 L)).i:Nat) ((iP (iL 74 L)).n:Nat)) 59))]) (jE [[2],[],[],[19]]) (fun x9=>aC (aJ ?_))))
 refine oL (σ:=(Nat × (LU) × Bool × Bool) ⊕ (Nat × (LU) × Bool × Bool × (List Nat) × Nat × (Array JP) × Nat)) (fun s=>match s with | Ja ⟨_,_,_,_⟩=>[(0,(pt g)),(2,(bG x1 0)),(6,(bG x9 2))] | I4 ⟨_,_,_,_,_,_,_,_⟩=>[(0,(pt g)),(2,(bG x1 0)),(6,(bG x9 2))]) (fun s=>match s with | Ja ⟨_,X,b,wv⟩=>[(g,(wE S X b V)),(nb x1 0,(cL wC 59)),(nb x9 2,(iJ (qy59 L wv)))] | I4 ⟨_,X,b,wv,a,q,C,κ⟩=>[(g,(wE S X b V)),(nb x1 0,(cL wC 59)),(nb x9 2,(iJ (vV (iP (iL 74 L)).s (iP (iL 74 L)).p (iP (iL 74 L)).c (iP (iL 74 L)).d (((iP (iL 74 L)).i:Nat):Int) (((iP (iL 74 L)).n:Nat):Int) (fE (nI a) q κ) (.bool wv)))),(q,(cL C 45))]) (fun s=>match s with | Ja ⟨f,_,_,_⟩=>f | I4 ⟨f,_,_,_,_,_,_,_⟩=>f)
  (fun s=>match s with | Ja ⟨f,X,b,wv⟩=>(b=true\/wv=true\/X.length<f)/\(0+X.length<=20001)/\(cstW f (iP (iL 74 L)) [] X b wv=cZ L)/\(X <:+ S)/\(wv=true->b=false) | I4 ⟨f,X,b,wv,a,_,C,κ⟩=>(b=true\/wv=true\/X.length<f)/\(a.length+X.length<=20001)/\(cstW f (iP (iL 74 L)) a X b wv=cZ L)/\(X <:+ S)/\(wv=true->b=false)/\(kI.A C a κ)) (Ja ((lW 74 L).length+1,lW 74 L,false,false)) (⟨I5 (I5 (Jo _)),(oB (chL_len 74 L) hs.length_le),cw_s (ck_s (dI h1) (sH h2)),qX hs 74,fun q=>absurd q dC⟩) [] ?_
 rintro (⟨f,X,b,wv⟩ | ⟨f,X,b,wv,a,q,C,κ⟩)
 ·rintro ⟨hf,ha,hr,hX,hw⟩
  refine aC ?_
  rcases jO b with h3 | h3
  ·subst h3
   refine jM f58 14 [0,2,6,41] [] [pt g,pt g,jp g 2,vT,vF,vF,JO,JO,JO,vF,vF,JO,JO,vF] [[],[],[],[0],[],[],[],[],[],[],[],[],[],[]] (oN (bC (aF (aF (aO (aA (aY f58 2 [2] [1,1,0] [bW (qy59 L wv),JO] (DL x1 (qy59 L wv)) (jE [[2],[1]]) (aG ?_))))))))
   exact mR (v:=(bW (qy59 L wv))) (ps:=.replicate 45 1) (fun _ hS=>(by have hR:=cw_b hw hr;rw [hR];exact ⟨none,0,rfl,hS.aS,hS.dZ [1,0],Fi.nil⟩))
  subst h3
  rcases jO wv with h4 | h4
  ·subst h4
   refine jM f58 14 [0,2,6,41] [] [pt g,pt g,jp g 2,vF,vT,vT,bH x9 2 44,vT,vF,vF,vF,JO,JO,vF] [[],[],[],[0],[],[],[],[2],[],[],[],[],[],[]] (oN (bC (aF (aF (aO (aA (aY f58 2 [2] [1,1,0] [bW (qy55 (iL 74 L) ((iP (iL 74 L)).i:Nat) ((iP (iL 74 L)).n:Nat)),JO] (DL x1 (qy55 (iL 74 L) ((iP (iL 74 L)).i:Nat) ((iP (iL 74 L)).n:Nat))) (jE [[2],[1]]) (aG ?_))))))))
   exact mR (v:=(bW (qy55 (iL 74 L) ((iP (iL 74 L)).i:Nat) ((iP (iL 74 L)).n:Nat)))) (ps:=.replicate 45 1) (fun _ hS=>(by have hR:=cw_t hr;rw [hR];exact ⟨none,0,rfl,hS.aS,hS.dZ [1,0],Fi.nil⟩))
  subst h4
  rcases jO (JU X [47]) with h5 | h5
  ·refine aY f58 14 [0,2,6,41] [] [pt g,pt g,jp g 2,vF,vT,vT,bH x9 2 44,vF,vT,vT,vT,pt g,vT,vT] [(12,(mQ 0 g (wQ S (JS X [47]) V)))] (cR qy229<|l7 [0] (nV g S X false V [47] h5 hX hl dC)<|jX 1) (oY (aI (aA (aJ (aC ?_)))))
   rcases jO (JU (JS X [47]) [42]) with h6 | h6
   ·refine aY f58 2 [0,2,6,43] [] [pt g,vT] (lS g (wQ S (JS (JS X [47]) [42]) V)) (jY 1<|l7 [0] (nV g S (JS X [47]) false V [42] h6 (mJ hX [47]) hl dC)<|cN) (oY (aY f58 2 [0,2,6] [] [bH x9 2 44,JO] [(1,(mF 2 x9 (qy55 (iL 74 L) ((iP (iL 74 L)).i:Nat) ((iP (iL 74 L)).n:Nat)) 59))] (jE [[],[2]]) (bC (aF (aO ?_)))))
    exact mN (Ja (f-1,JS (JS X [47]) [42],false,true)) (by show f-1<f;have:=DU hf;omega) (⟨I5 (Jj rfl),(by have q0:=qH h5;have q1:=dY (JS X [47]) [42];simp only [IK] at q0;omega),cw_e1 hf hr h5 h6,mJ (mJ hX [47]) [42],fun _=>rfl⟩) []
   refine aY f58 2 [0,2,6,43] [] [pt g,vF] (lS g (wQ S (JS X [47]) V)) (jY 1<|l7 [0] (gJ g S (JS X [47]) false V [42] h6 (mJ hX [47]) hl dC)<|cN) (oN (aI (aA (aY f58 3 [0,2,6,7] [] (let qa:=vu (o8 (JS X [47]));[pt g,qa,qa]) (lS g (wE S (iU (JS X [47])) (!jV (JS X [47])) V)) (jY 1<|l7 [0] (wI g S (JS X [47]) false V (mJ hX [47]) hl)<|jX 1) (Bd (σ:=Nat × (LU) × Bool) (fun ⟨n2,_,_⟩=>[(0,(pt g)),(2,(bG x1 0)),(6,(bG x9 2)),(7,(vu n2))]) (fun ⟨_,X2,b2⟩=>[(g,(wE S X2 b2 V)),(nb x1 0,(cL wC 59)),(nb x9 2,(iJ (qy35 (iL 74 L) ((iP (iL 74 L)).i:Nat) ((iP (iL 74 L)).n:Nat))))]) (fun ⟨_,_,_⟩=>(fun w=>Fs w0 w (oa x2 1) (nb x2 1) (iL 74 L)/\True)) (fun ⟨n2,X2,b2⟩=>(b2=true\/false=true\/X2.length<f-1)/\((([]:List Nat)++[n2]).length+X2.length<=20001)/\(cstW (f-1) (iP (iL 74 L)) (([]:List Nat)++[n2]) X2 b2 false=cZ L)/\(X2 <:+ S)) ?_ ?_)))))
   ·rintro ⟨n2,X2,b2⟩ ⟨hf2,ha2,hr2,hX2⟩
    refine rS f58 7 [0,2,6] [1,1,1,0,1] (fun x=>[bH x9 2 43,vz,vu n2,lY x 3 1,fE (nI ([n2])) (nb x 4) ((nI ([n2])).length+bV x 4),bH x9 2 43,JO]) (fun x=>[(3,(nw x 3 (cL #[vu n2] 45))),(4,(qy201 x ([n2]) (cO 0))),(6,(mF 2 x9 (FB (nI ([n2])) (iL 74 L) ((iP (iL 74 L)).i:Nat) ((iP (iL 74 L)).n:Nat) (nb x 4) ((nI ([n2])).length+bV x 4)) 59))]) (cR [[],[2],[],[]]<|cX (qN (fun _ ζ=>(fE (nI ([n2])) (ζ.headD 0) ((nI ([n2])).length+ζ.tail.headD 0))) (fun _ ζ=>(oM (kI.r ([n2])) (IP (cO 0)) (ζ.tail.headD 0) 45)) (fun x _ _ hG=>appI_nil (ty:=57) (us:=[n2]) underlying57 (kE (sz:=1) (b:=4) (z:=(cO 0)) kr rfl) (src_i1 underlying57 (hG.kn (g:=nb x 3) (o:=(cL #[vu n2] 45)) 27)) lb lb dC))<|jE [[],[2]]) (fun x19=>aH ?_)
    exact mN (I4 (f-1,X2,b2,false,[n2],nb x19 4,(kI.r ([n2])).toArray++IU (IP (cO 0)) (bV x19 4),(nI ([n2])).length+bV x19 4)) (by show f-1<f;have:=DU hf;omega) (⟨hf2,ha2,hr2,hX2,fun q=>absurd q dC,oP.A.fresh (K:=kI) (z:=(cO 0)) rfl ([n2]) (bV x19 4)⟩) []
   intro J1
   refine aC ?_
   rcases jO (JU (iU (JS X [47])) [104]) with h7 | h7
   ·refine aY f58 2 [0,2,6,7,48] [] [pt g,vT] (lS g (wE S (JS (iU (JS X [47])) [104]) (!jV (JS X [47])) V)) (jY 1<|l7 [0] (nV g S (iU (JS X [47])) (!jV (JS X [47])) V [104] h7 (kZ (mJ hX [47])) hl dC)<|cN) (oY (aC (jJ f58 2 [0,2,6,7,50] [qy111 X,.bool (decide (2147483648<=(o8 (JS X [47]):Int)))] (oC (decide (2147483648<=(o8 (JS X [47]):Int))) (fun h8=>?_) (fun h8=>?_)))))
    ·rw [h8]
     refine lV f58 4 [0,2,6,7] [] [pt g,pt g,jp g 2,JO] [(3,(mQ 0 g (FK S (JS (iU (JS X [47])) [104]) V)))] (jE x8) (aA (lV f58 3 [0,2,6,7] [] (let qa:=vu (csN (JS X [47]));[qy111 X,qa,qa]) [] (jY 1<|eU (vu (csN (JS X [47]))) (jN csN_h)<|jX 1) (aA ?_)))
     exact CS J1 (csN (JS X [47]),JS (iU (JS X [47])) [104],true) (⟨Jj rfl,(by have q:=ck_al ha h5 (ck_y1 _);simp only [II,IJ,IK] at *;omega),cw_s (cs_nH (DU hf) hr h5 h6 h7 (oA (yT h8))),mJ (kZ (mJ hX [47])) [104]⟩)
    rw [h8]
    refine aI (aA (lV f58 3 [0,2,6,7] [] (let qa:=vu (csN (JS X [47]));[qy111 X,qa,qa]) [] (jY 1<|eU (vu (csN (JS X [47]))) (jN csN_h)<|jX 1) (aA ?_)))
    exact CS J1 (csN (JS X [47]),JS (iU (JS X [47])) [104],(!jV (JS X [47]))) (⟨I5 (I5 (ck_yl (DU hf) h5 (ck_y1 _))),(by have q:=ck_al ha h5 (ck_y1 _);simp only [II,IJ,IK] at *;omega),cw_s (cs_nh (DU hf) hr h5 h6 h7 (oA (yF h8))),mJ (kZ (mJ hX [47])) [104]⟩)
   refine aY f58 2 [0,2,6,7,48] [] [pt g,vF] (lS g (wE S (iU (JS X [47])) (!jV (JS X [47])) V)) (jY 1<|l7 [0] (gJ g S (iU (JS X [47])) (!jV (JS X [47])) V [104] h7 (kZ (mJ hX [47])) hl dC)<|cN) (oN (jJ f58 2 [0,2,6,7,57] [qy111 X,.bool (decide (2147483648<=(o8 (JS X [47]):Int)))] (oC (decide (2147483648<=(o8 (JS X [47]):Int))) (fun h9=>?_) (fun h9=>?_))))
   ·rw [h9]
    refine lV f58 4 [0,2,6,7] [] [pt g,pt g,jp g 2,JO] [(3,(mQ 0 g (FK S (iU (JS X [47])) V)))] (jE x8) (aA ?_)
    exact CS J1 (o8 (JS X [47]),iU (JS X [47]),true) (⟨Jj rfl,(by have q:=ck_al ha h5 (yJ _);simp only [II,IJ,IK] at *;omega),cw_s (cs_nN (DU hf) hr h5 h6 h7 (oA (yT h9))),kZ (mJ hX [47])⟩)
   rw [h9]
   refine aI (aA ?_)
   exact CS J1 (o8 (JS X [47]),iU (JS X [47]),(!jV (JS X [47]))) (⟨I5 (I5 (ck_yl (DU hf) h5 (yJ _))),(by have q:=ck_al ha h5 (yJ _);simp only [II,IJ,IK] at *;omega),cw_s (cs_nn (DU hf) hr h5 h6 h7 (oA (yF h9))),kZ (mJ hX [47])⟩)
  refine aY f58 14 [0,2,6,41] [] [pt g,pt g,jp g 2,vF,vT,vT,bH x9 2 44,vF,vT,vT,vT,pt g,vF,vF] [(12,(mQ 0 g (wQ S X V)))] (cR qy229<|l7 [0] (gJ g S X false V [47] h5 hX hl dC)<|jX 1) (oN (bC (aF (aF (aO (aA (aY f58 2 [2] [1,1,0] [qy145 L,JO] (DL x1 (qy35 (iL 74 L) ((iP (iL 74 L)).i:Nat) ((iP (iL 74 L)).n:Nat))) (jE [[2],[1]]) (aG ?_))))))))
  exact mR (v:=(qy145 L)) (ps:=.replicate 45 1) (fun _ hS=>(by have hR:=cw_e0 hf hr h5;rw [hR];exact ⟨none,0,rfl,hS.aS,hS.dZ [1,0],Fi.nil⟩))
 rintro ⟨hf,ha,hr,hX,hw,hA⟩
 refine aC ?_
 rcases jO b with h10 | h10
 ·subst h10
  refine jM f58 14 [0,2,6,41] [] [pt g,pt g,jp g 2,vT,vF,vF,JO,JO,JO,vF,vF,JO,JO,vF] [[],[],[],[0],[],[],[],[],[],[],[],[],[],[]] (oN (bC (aF (aF (aO (aA (aY f58 2 [2] [1,1,0,1] [bW (vV (iP (iL 74 L)).s (iP (iL 74 L)).p (iP (iL 74 L)).c (iP (iL 74 L)).d (((iP (iL 74 L)).i:Nat):Int) (((iP (iL 74 L)).n:Nat):Int) (fE (nI a) q κ) (.bool wv)),JO] (DL x1 (vV (iP (iL 74 L)).s (iP (iL 74 L)).p (iP (iL 74 L)).c (iP (iL 74 L)).d (((iP (iL 74 L)).i:Nat):Int) (((iP (iL 74 L)).n:Nat):Int) (fE (nI a) q κ) (.bool wv))) (jE [[2],[1]]) (aG (mD [(2,(bG x1 0))] [(g,(FK S X V)),(nb x1 0,(iJ (vV (iP (iL 74 L)).s (iP (iL 74 L)).p (iP (iL 74 L)).c (iP (iL 74 L)).d (((iP (iL 74 L)).i:Nat):Int) (((iP (iL 74 L)).n:Nat):Int) (fE (nI a) q κ) (.bool wv)))),(q,(cL C 45))] ?_)))))))))
  exact mR (v:=(bW (vV (iP (iL 74 L)).s (iP (iL 74 L)).p (iP (iL 74 L)).c (iP (iL 74 L)).d (((iP (iL 74 L)).i:Nat):Int) (((iP (iL 74 L)).n:Nat):Int) (fE (nI a) q κ) (.bool wv)))) (ps:=.replicate 45 1) (fun _ hS=>(by have hR:=cw_b hw hr;rw [hR];exact ⟨wF q,κ,rfl,hS.aS,hS.dZ [1,0,0],Fi.of_kI (hS.Ep rfl rfl (.tail _ (.head _))) hA (by show a.length<=_;omega)⟩))
 subst h10
 rcases jO wv with h11 | h11
 ·subst h11
  refine jM f58 14 [0,2,6,41] [] [pt g,pt g,jp g 2,vF,vT,vT,bH x9 2 44,vT,vF,vF,vF,JO,JO,vF] [[],[],[],[0],[],[],[],[2],[],[],[],[],[],[]] (oN (bC (aF (aF (aO (aA (aY f58 2 [2] [1,1,0,1] [bW (qy37 (nI a) (iL 74 L) ((iP (iL 74 L)).i:Nat) ((iP (iL 74 L)).n:Nat) q κ),JO] (DL x1 (qy37 (nI a) (iL 74 L) ((iP (iL 74 L)).i:Nat) ((iP (iL 74 L)).n:Nat) q κ)) (jE [[2],[1]]) (aG (mD [(2,(bG x1 0))] [(g,(wQ S X V)),(nb x1 0,(iJ (qy37 (nI a) (iL 74 L) ((iP (iL 74 L)).i:Nat) ((iP (iL 74 L)).n:Nat) q κ))),(q,(cL C 45))] ?_)))))))))
  exact mR (v:=(bW (qy37 (nI a) (iL 74 L) ((iP (iL 74 L)).i:Nat) ((iP (iL 74 L)).n:Nat) q κ))) (ps:=.replicate 45 1) (fun _ hS=>(by have hR:=cw_t hr;rw [hR];exact ⟨wF q,κ,rfl,hS.aS,hS.dZ [1,0,0],Fi.of_kI (hS.Ep rfl rfl (.tail _ (.head _))) hA (by show a.length<=_;omega)⟩))
 subst h11
 rcases jO (JU X [47]) with h12 | h12
 ·refine aY f58 14 [0,2,6,41] [] [pt g,pt g,jp g 2,vF,vT,vT,bH x9 2 44,vF,vT,vT,vT,pt g,vT,vT] [(12,(mQ 0 g (wQ S (JS X [47]) V)))] (cR qy229<|l7 [0] (nV g S X false V [47] h12 hX hl dC)<|jX 1) (oY (aI (aA (aJ (aC ?_)))))
  rcases jO (JU (JS X [47]) [42]) with h13 | h13
  ·refine aY f58 2 [0,2,6,43] [] [pt g,vT] (lS g (wQ S (JS (JS X [47]) [42]) V)) (jY 1<|l7 [0] (nV g S (JS X [47]) false V [42] h13 (mJ hX [47]) hl dC)<|cN) (oY (aY f58 2 [0,2,6] [] [bH x9 2 44,JO] [(1,(mF 2 x9 (qy37 (nI a) (iL 74 L) ((iP (iL 74 L)).i:Nat) ((iP (iL 74 L)).n:Nat) q κ) 59))] (jE [[],[2]]) (bC (aF (aO ?_)))))
   exact mN (I4 (f-1,JS (JS X [47]) [42],false,true,a,q,C,κ)) (by show f-1<f;have:=DU hf;omega) (⟨I5 (Jj rfl),(by have q0:=qH h12;have q1:=dY (JS X [47]) [42];simp only [IK] at q0;omega),cw_e1 hf hr h12 h13,mJ (mJ hX [47]) [42],fun _=>rfl,hA⟩) []
  refine aY f58 2 [0,2,6,43] [] [pt g,vF] (lS g (wQ S (JS X [47]) V)) (jY 1<|l7 [0] (gJ g S (JS X [47]) false V [42] h13 (mJ hX [47]) hl dC)<|cN) (oN (aI (aA (aY f58 3 [0,2,6,7] [] (let qa:=vu (o8 (JS X [47]));[pt g,qa,qa]) (lS g (wE S (iU (JS X [47])) (!jV (JS X [47])) V)) (jY 1<|l7 [0] (wI g S (JS X [47]) false V (mJ hX [47]) hl)<|jX 1) (Bd (σ:=Nat × (LU) × Bool) (fun ⟨n2,_,_⟩=>[(0,(pt g)),(2,(bG x1 0)),(6,(bG x9 2)),(7,(vu n2))]) (fun ⟨_,X2,b2⟩=>[(g,(wE S X2 b2 V)),(nb x1 0,(cL wC 59)),(nb x9 2,(iJ (FB (nI a) (iL 74 L) ((iP (iL 74 L)).i:Nat) ((iP (iL 74 L)).n:Nat) q κ))),(q,(cL C 45))]) (fun ⟨_,_,_⟩=>(fun w=>Fs w0 w (oa x2 1) (nb x2 1) (iL 74 L)/\True)) (fun ⟨n2,X2,b2⟩=>(b2=true\/false=true\/X2.length<f-1)/\((a++[n2]).length+X2.length<=20001)/\(cstW (f-1) (iP (iL 74 L)) (a++[n2]) X2 b2 false=cZ L)/\(X2 <:+ S)) ?_ ?_)))))
  ·rintro ⟨n2,X2,b2⟩ ⟨hf2,ha2,hr2,hX2⟩
   refine rSf f58 7 [0,2,6] [1,1,1,1,0] (fun x=>[bH x9 2 43,fE (nI a) q κ,vu n2,lY x 3 1,fE (nI (a++([n2]))) (nb x 4) (bV x 4),bH x9 2 43,JO]) (fun x=>[(3,(nw x 3 (cL #[vu n2] 45))),(4,(jD 3 x 4 (oc x 4) 45)),(6,(mF 2 x9 (FB (nI (a++([n2]))) (iL 74 L) ((iP (iL 74 L)).i:Nat) ((iP (iL 74 L)).n:Nat) (nb x 4) (bV x 4)) 59))]) (fun x=>[(4,fun w=>kI.A (oc x 4) (a++([n2])) (bV x 4))]) (fun _=>(fun w=>Fs w0 w (oa x2 1) (nb x2 1) (iL 74 L)/\True)) (fun x=>kI.A (oc x 4) (a++([n2])) (bV x 4)) (fun _ _ hF hf=>⟨hF,hf 4⟩) (cR [[],[2],[],[]]<|cX (qM 3 (fun x _ _ hG hg=>appI_any (ty:=57) (g:=q) (ts:=a) (us:=[n2]) underlying57 (kE (sz:=1) (b:=4) (z:=(cO 0)) kr rfl) hA (src_i1 underlying57 (hG.kn (g:=nb x 3) (o:=(cL #[vu n2] 45)) 28)) (oU ha) dC hg))<|jE [[],[2]]) (fun x39 ap39_4=>aH ?_)
   exact mN (I4 (f-1,X2,b2,false,a++([n2]),nb x39 4,oc x39 4,bV x39 4)) (by show f-1<f;have:=DU hf;omega) (⟨hf2,ha2,hr2,hX2,fun q=>absurd q dC,ap39_4⟩) []
  intro J2
  refine aC ?_
  rcases jO (JU (iU (JS X [47])) [104]) with h14 | h14
  ·refine aY f58 2 [0,2,6,7,48] [] [pt g,vT] (lS g (wE S (JS (iU (JS X [47])) [104]) (!jV (JS X [47])) V)) (jY 1<|l7 [0] (nV g S (iU (JS X [47])) (!jV (JS X [47])) V [104] h14 (kZ (mJ hX [47])) hl dC)<|cN) (oY (aC (jJ f58 2 [0,2,6,7,50] [qy111 X,.bool (decide (2147483648<=(o8 (JS X [47]):Int)))] (oC (decide (2147483648<=(o8 (JS X [47]):Int))) (fun h15=>?_) (fun h15=>?_)))))
   ·rw [h15]
    refine lV f58 4 [0,2,6,7] [] [pt g,pt g,jp g 2,JO] [(3,(mQ 0 g (FK S (JS (iU (JS X [47])) [104]) V)))] (jE x8) (aA (lV f58 3 [0,2,6,7] [] (let qa:=vu (csN (JS X [47]));[qy111 X,qa,qa]) [] (jY 1<|eU (vu (csN (JS X [47]))) (jN csN_h)<|jX 1) (aA ?_)))
    exact CS J2 (csN (JS X [47]),JS (iU (JS X [47])) [104],true) (⟨Jj rfl,(by have q:=ck_al ha h12 (ck_y1 _);simp only [II,IJ,IK] at *;omega),cw_s (cs_nH (DU hf) hr h12 h13 h14 (oA (yT h15))),mJ (kZ (mJ hX [47])) [104]⟩)
   rw [h15]
   refine aI (aA (lV f58 3 [0,2,6,7] [] (let qa:=vu (csN (JS X [47]));[qy111 X,qa,qa]) [] (jY 1<|eU (vu (csN (JS X [47]))) (jN csN_h)<|jX 1) (aA ?_)))
   exact CS J2 (csN (JS X [47]),JS (iU (JS X [47])) [104],(!jV (JS X [47]))) (⟨I5 (I5 (ck_yl (DU hf) h12 (ck_y1 _))),(by have q:=ck_al ha h12 (ck_y1 _);simp only [II,IJ,IK] at *;omega),cw_s (cs_nh (DU hf) hr h12 h13 h14 (oA (yF h15))),mJ (kZ (mJ hX [47])) [104]⟩)
  refine aY f58 2 [0,2,6,7,48] [] [pt g,vF] (lS g (wE S (iU (JS X [47])) (!jV (JS X [47])) V)) (jY 1<|l7 [0] (gJ g S (iU (JS X [47])) (!jV (JS X [47])) V [104] h14 (kZ (mJ hX [47])) hl dC)<|cN) (oN (jJ f58 2 [0,2,6,7,57] [qy111 X,.bool (decide (2147483648<=(o8 (JS X [47]):Int)))] (oC (decide (2147483648<=(o8 (JS X [47]):Int))) (fun h16=>?_) (fun h16=>?_))))
  ·rw [h16]
   refine lV f58 4 [0,2,6,7] [] [pt g,pt g,jp g 2,JO] [(3,(mQ 0 g (FK S (iU (JS X [47])) V)))] (jE x8) (aA ?_)
   exact CS J2 (o8 (JS X [47]),iU (JS X [47]),true) (⟨Jj rfl,(by have q:=ck_al ha h12 (yJ _);simp only [II,IJ,IK] at *;omega),cw_s (cs_nN (DU hf) hr h12 h13 h14 (oA (yT h16))),kZ (mJ hX [47])⟩)
  rw [h16]
  refine aI (aA ?_)
  exact CS J2 (o8 (JS X [47]),iU (JS X [47]),(!jV (JS X [47]))) (⟨I5 (I5 (ck_yl (DU hf) h12 (yJ _))),(by have q:=ck_al ha h12 (yJ _);simp only [II,IJ,IK] at *;omega),cw_s (cs_nn (DU hf) hr h12 h13 h14 (oA (yF h16))),kZ (mJ hX [47])⟩)
 refine aY f58 14 [0,2,6,41] [] [pt g,pt g,jp g 2,vF,vT,vT,bH x9 2 44,vF,vT,vT,vT,pt g,vF,vF] [(12,(mQ 0 g (wQ S X V)))] (cR qy229<|l7 [0] (gJ g S X false V [47] h12 hX hl dC)<|jX 1) (oN (bC (aF (aF (aO (aA (aY f58 2 [2] [1,1,0,1] [bW (FB (nI a) (iL 74 L) ((iP (iL 74 L)).i:Nat) ((iP (iL 74 L)).n:Nat) q κ),JO] (DL x1 (FB (nI a) (iL 74 L) ((iP (iL 74 L)).i:Nat) ((iP (iL 74 L)).n:Nat) q κ)) (jE [[2],[1]]) (aG (mD [(2,(bG x1 0))] [(g,(wQ S X V)),(nb x1 0,(iJ (FB (nI a) (iL 74 L) ((iP (iL 74 L)).i:Nat) ((iP (iL 74 L)).n:Nat) q κ))),(q,(cL C 45))] ?_)))))))))
 exact mR (v:=(bW (FB (nI a) (iL 74 L) ((iP (iL 74 L)).i:Nat) ((iP (iL 74 L)).n:Nat) q κ))) (ps:=.replicate 45 1) (fun _ hS=>(by have hR:=cw_e0 hf hr h12;rw [hR];exact ⟨wF q,κ,rfl,hS.aS,hS.dZ [1,0,0],Fi.of_kI (hS.Ep rfl rfl (.tail _ (.head _))) hA (by show a.length<=_;omega)⟩))
theorem nJ (g:Nat) (S:LU) (L:LU) (V:JP) (W:LU) (h:JU L W=true) (hk:aN L=JS L W) (hs:L <:+ S) (hl:S.length<=20000) (hw:W.length<=100) (w0:JQ) (hK:bI [(g,(.cells #[kD (dH S),wR (qK S L:Int),vF,V] 74 (0,0)))] w0) (hP:bZ (fun b=>b∈([(g,(.cells #[kD (dH S),wR (qK S L:Int),vF,V] 74 (0,0)))]:List (Nat × Obj)).map (·.1)) (fun _=>True) w0):Calls prog 57 #[pt g,kD (dH W)] w0 (fun ε w'=>ε=.returned vT/\pG (fun b=>b∈([(g,(.cells #[kD (dH S),wR (qK S L:Int),vF,V] 74 (0,0)))]:List (Nat × Obj)).map (·.1)) w0 w'/\bI [(g,(.cells #[kD (dH S),wR (qK S (aN L):Int),vF,V] 74 (0,0)))] w'):=by
 have k:=nV g S L false V W h hs hl hw w0 hK hP
 rw [<- hk] at k;exact k
abbrev AV:=fun p0 p1=>(.int .i64 (qK p0 p1:Int):JP)
def RcC (f:Nat):Prop:=∀ (g q:Nat) (S L:LU) (bd:Bool) (ts:List aX) (c:Nat) (C:Array JP) (A:List aX) (_hs:L <:+ S) (_hl:S.length<=20000) (_h8:ts.length<=8) (_h9:9<=f+ts.length) (_hA:kT.A C ts c) (_hAe:ts.map aX.er=A) (w0:JQ) (_hK:bI [(q,.cells C 50 (0,0)),(g,.cells #[aU S,AV S L,.bool bd,aW (wF q) ts.length c] 74 (0,0))] w0) (_hP:bZ (fun b=>b∈([(q,.cells C 50 (0,0)),(g,.cells #[aU S,AV S L,.bool bd,aW (wF q) ts.length c] 74 (0,0))]:List (Nat × Obj)).map (·.1)) (fun w=>bY w ts/\True) w0) (T:Nat->Prop) (_hT:∀ b,T b->b<w0.heap.size) (_hW:∀ x∈([(q,.cells C 50 (0,0)),(g,.cells #[aU S,AV S L,.bool bd,aW (wF q) ts.length c] 74 (0,0))]:List (Nat × Obj)),T x.1) (_hY:bZ T (fun w=>bY w ts) w0) (n0:Nat) (_hn:n0<=w0.heap.size),Calls prog 32 #[pt g] w0 (fun e w'=>∃ r:bT,e=.returned oH/\pG (fun b=>b=q\/b∈[g]) w0 w'/\bI [(g,.cells #[aU S,wR (qK S (dD f (Cu.mk L bd A)).l:Int),.bool (dD f (Cu.mk L bd A)).b,aW (some ⟨r.n.headD 0,0,none⟩) r.t.length (r.n.tail.headD 0)] 74 (0,0))] w'/\(r.n.headD 0=q\/w0.heap.size<=r.n.headD 0)/\w'.heap[r.n.headD 0]? = some (.cells (uO r) 50 (0,0))/\bZ (fun b=>T b\/b=r.n.headD 0) (fun w=>bY w r.t/\(kT.A (uO r) r.t (r.n.tail.headD 0)/\r.t.map aX.er=(dD f (Cu.mk L bd A)).ts/\∀ t∈r.t,t∈ts\/sV n0 t)) w')
abbrev BF:=fun p0=>vs (nb p0 7) ([zt]).length (([zt]).length+bV p0 7)
abbrev kF:=fun p0 p1=>vs (nb p0 p1) (ot p0 p1).length (bV p0 p1)
abbrev Gl:=fun p0 p1=>[(0,(pt p0)),(2,(vi 0)),(3,(bG p1 0))]
abbrev qy79:=fun p0 p1 p2 p3 p4=>(cL #[aU p0,iK p0 (kM p1 p2 p3),.bool (kX p1 p2 p3),BF p4] 74:Obj)
abbrev DW:=(.slice none 0 0:JP)
abbrev Di:=fun p0 p1 p2=>(cL #[aU p0,iK p0 p1,vF,BF p2] 74:Obj)
abbrev qy121:=fun p0 p1 p2 p3 p4=>mQ 0 p0 (cL #[aU p1,iK p1 p2,.bool p3,BF p4] 74)
abbrev qy129:=fun p0=>kJ 2 (o8 (aN p0):Int) 0 0 vz
abbrev qy174:=fun p0 p1 p2 p3=>kJ 2 (o8 (aN p0):Int) 0 0 (vs p1 p2 p3)
abbrev Hq:=fun p0 p1 p2 p3 p4 p5=>(cL #[aU p0,iK p0 p1,.bool p2,vs p3 p4 p5] 74:Obj)
abbrev qy202:=fun p0 p1 p2 p3=>(.slice (rF p0 p1 p2) p3 p3:JP)
theorem rcterm0_any (f:Nat) (ih:RcC f) (g:Nat) (S:LU) (L:LU) (hs:L <:+ S) (hl:S.length<=20000) (h9:9<=f+1) (w0:JQ) (hK:bI [(g,(cL #[kD (dH S),vn (qK S L),vF,vz] 74))] w0) (hP:bZ (fun b=>b∈([(g,(cL #[kD (dH S),vn (qK S L),vF,vz] 74))]:List (Nat × Obj)).map (·.1)) (fun _=>True) w0) (T:Nat->Prop) (hT:∀ b,T b->b<w0.heap.size) (hW:∀ x∈([(g,.cells #[kD (dH S),wR (qK S L:Int),.bool false,DW] 74 (0,0))]:List (Nat × Obj)),T x.1) (n0:Nat) (hn:n0<=w0.heap.size):Calls prog 32 #[pt g] w0 (fun e w'=>∃ r:bT,e=.returned oH/\pG (fun b=>b∈([(g,.cells #[kD (dH S),wR (qK S L:Int),.bool false,DW] 74 (0,0))]:List (Nat × Obj)).map (·.1)) w0 w'/\bI [(g,.cells #[kD (dH S),wR (qK S (dD (f+1) (Cu.mk L false [])).l:Int),.bool (dD (f+1) (Cu.mk L false [])).b,aW (some ⟨r.n.headD 0,0,none⟩) r.t.length (r.n.tail.headD 0)] 74 (0,0))] w'/\w0.heap.size<=r.n.headD 0/\w'.heap[r.n.headD 0]? = some (bM (uO r))/\bZ (fun b=>T b\/b=r.n.headD 0) (fun w=>bY w r.t/\(kT.A (uO r) r.t (r.n.tail.headD 0)/\r.t.map aX.er=(dD (f+1) (Cu.mk L false [])).ts/\(∀ t∈r.t,sV n0 t)/\n0<=r.n.headD 0)) w'):=by
 refine Calls.nZ (n:=123) (F:=(fun _=>True)) [(g,(cL #[aU S,iK S L,vF,vz] 74))] func32 rfl rfl rfl (by simp) hK (by simp) hP (aC (jM f32 12 [0,15] [] [pt g,pt g,jp g 2,vF,vF,pt g,pt g,jp g 3,vz,vi 0,vF,vF] [[],[],[],[0],[],[],[],[],[0],[],[],[]] (oN (aI (aA (jM f32 6 [0,2] [] [pt g,pt g,jp g 3,vz,vi 0,vi 0] [[],[],[],[0],[],[]] (sS f32 11 [0,2] [1,0,1] (fun j=>[pt g,pt g,pt g,jp g 3,vz,.agg qy68,lY j 6 1,BF j,pt g,jp g 3,JO]) (fun j=>[(6,(fB j 6 qy68 50)),(7,(nw j 7 (oM (kT.r ([zt])) (IP rM) (bV j 7) 50))),(10,(mQ 0 g (Di S L j)))]) (cR [[],[],[],[],[0],[],[]]<|cX (qN (fun _ ζ=>(fE ([zt]) (ζ.headD 0) (([zt]).length+ζ.tail.headD 0))) (fun _ ζ=>(oM (kT.r ([zt])) (IP rM) (ζ.tail.headD 0) 50)) (fun j _ _ hG=>BM (K:=kT) (ty:=24) (us:=[zt]) underlying24 (kE (sz:=36) (b:=80) (z:=rM) kr rfl) (src_tn (t:=zt) underlying24 rfl (hG.kn (g:=nb j 6) (o:=(bM qy68)) 49)) lb lb dC))<|jE qA) (fun j3=>sS f32 1 [0,2,3] [] (fun j=>[bG j 0]) (fun j=>[(0,(fB j 0 qy68 50))]) (jX 1) (fun j4=>Bd (σ:=aX × (LU) × Bool × Nat × (Array JP) × (List aX) × Nat) (fun ⟨_,_,_,_,_,_,_⟩=>(Gl g j4)) (fun ⟨y,X,b,q2,C2,l2,κ2⟩=>[(g,(Hq S X b q2 l2.length κ2)),(q2,(bM C2)),(nb j4 0,(bM (aX.row y)))]) (fun ⟨y,_,_,_,_,l2,_⟩=>(fun w=>KpN w0 w y.ka y.kc y.ks/\bY w l2/\True)) (fun ⟨y,X,b,_,C2,l2,κ2⟩=>(dD (f+1) (Cu.mk L false ([]:List aX))=Cu.fin (Cu.mk X b (l2.map aX.er)) ([]:List aX).length y.er)/\(0<l2.length)/\(∀ t∈l2,t∈([]:List aX)\/sV w0.heap.size t)/\(X <:+ S)/\(kT.A C2 l2 κ2)/\y.Ok) ?_ ?_)))))))))
 ·rintro ⟨y,X,b,q2,C2,l2,κ2⟩ ⟨hz,hlen,hnw,hX,hA2,hyo⟩
  refine aY f32 2 [0,2,3] [] [pt g,oH] (lS g (Hq S (kM b X [41]) (kX b X [41]) q2 l2.length κ2)) (jY 1<|l7 [0] (oI g S X b (vs q2 l2.length κ2) [41] hX hl dC)<|cN) (rDc f32 [0,1,3,7,0,0,63,127] 8 [] [1,1,0] [pt g,pt g,jp g 3,vs q2 l2.length κ2,vi 0,BB y,jp q2 (0*36),JO] [(7,(mQ 1 q2 (bM (lK C2 (0*36) y.row.toList))))] (cR [[],[],[],[0],[],[2]]<|qSc (idx_rowN (g:=q2) (c:=κ2) (k:=.i64) underlying24 sizeOf50 (show 0=((0:Nat):Int) from rfl) (show 0<l2.length from hlen))<|cX (o_putS _ 1 (fun _=>do JA 50 (jp q2 (0*36)) (BB y);pure Next.skip) (fun _=>q2) (fun _=>(bM C2)) (fun _=>(bM (lK C2 (0*36) y.row.toList))) (fun _ _ _ _ hg=>st_agg (us:=y.row.toList) sizeOf50 rfl (aX.lQ y) (tm_all1 y) (kT_fit hA2 hlen y) hg))<|cN) (mt_end (mD [] [(g,(Hq S (kM b X [41]) (kX b X [41]) q2 l2.length κ2)),(q2,(bM (lK C2 (0*36) y.row.toList)))] ?_)))
  exact mR (v:=oH) (fun _ hS=>(by rw [hz];exact ⟨{ n:=[q2,κ2],o:=[.cells (lK C2 (0*36) y.row.toList) 0 (0,0)],t:=l2.set 0 y},rfl,hS.aS,(by dsimp only;rw [Jd];exact hS.dZ [1,0]),(hS.newX 1 [g] rfl rfl (.head _)).1,(hS.newX 1 [g] rfl rfl (.head _)).2,(hS.mvT (.tail _ (.head _)) (wsT hW) hT (dL (fun _=>bY.nil)) (fun w hF=>bY.set hF.2.1 hF.1.f 0) (nw_put hnw (sV.of_kpn hS.facts.now.1) 0)).mono (fun _ h=>⟨h,kT_put hA2 hlen y,er_put rfl rfl rfl,nw_z (nw_put hnw (sV.of_kpn hS.facts.now.1) 0) hn,JL hn (hS.newX 1 [g] rfl rfl (.head _)).1⟩)⟩))
 intro J1
 refine aC (aJ ?_)
 rcases jO (JU L [107,101,121,40]) with hb1 | hb1
 ·refine aY f32 3 [0,2,3,37] [] [pt g,vT,vT] (lS g (Di S (aN L) j3)) (jY 1<|l7 [0] (nJ g S L (BF j3) [107,101,121,40] hb1 (kdI_1 hb1).2 hs hl dC)<|jX 1) (oY (aY f32 2 [0,2,3] [] [bG j4 0,JO] [(1,(jD 2 j4 0 (kJ 1 0 0 0 vz) 50))] (jE [[],[2]]) (rSf f32 5 [0,2,3] [] (fun j=>[pt g,bW (vV (cZ (aN L)).k.s (cZ (aN L)).k.p (cZ (aN L)).k.c (cZ (aN L)).k.d (((cZ (aN L)).k.i:Nat):Int) (((cZ (aN L)).k.n:Nat):Int) (gW (nI (cZ (aN L)).s) (oa j 1) (nb j 1)) (.bool (cZ (aN L)).w)),lY j 2 1,bH j4 0 35,JO]) (fun j=>[(1,(mQ 0 g (cL #[aU S,vn (qK S (cZ (aN L)).l),.bool (!(cZ (aN L)).o),BF j3] 74))),(2,(fB j 2 (vV (cZ (aN L)).k.s (cZ (aN L)).k.p (cZ (aN L)).k.c (cZ (aN L)).k.d (((cZ (aN L)).k.i:Nat):Int) (((cZ (aN L)).k.n:Nat):Int) (gW (nI (cZ (aN L)).s) (oa j 1) (nb j 1)) (.bool (cZ (aN L)).w)) 59)),(4,(jD 2 j4 0 (kJ 1 0 0 0 (lY j 2 1)) 50))]) (fun j=>[(1,fun w=>Fi w0 w .u32 (oa j 1) (nb j 1) (nI (cZ (aN L)).s)),(2,fun w=>w0.heap.size<=nb j 2)]) (fun j=>(fun w=>Fi w0 w .u32 (oa j 1) (nb j 1) (nI (cZ (aN L)).s)/\True)) (fun j=>w0.heap.size<=nb j 2) (fun _ _ _ hf=>⟨⟨hf 1,trivial⟩,hf 2⟩) (jY 1<|cX (qWJ [0] (fun _ _ w hG hK=>zY g S (aN L) (BF j3) (eQ hs) hl w hK (hG.pK [0] tV)))<|cX (o_born (o_run 2 [] [] (fun _ _=>[]) (fun _ _=>by kernel_rfl)))<|jE [[],[2]]) (fun j9 ap9_2=>aH (aA (uF (Gl g j4) [(g,(cL #[aU S,vn (qK S (cZ (aN L)).l),.bool (!(cZ (aN L)).o),BF j3] 74)),(nb j3 7,(oM (kT.r ([zt])) (IP rM) (bV j3 7) 50)),(nb j4 0,(bM (kJ 1 0 0 0 (lY j9 2 1)))),(nb j9 2,(iJ (vV (cZ (aN L)).k.s (cZ (aN L)).k.p (cZ (aN L)).k.c (cZ (aN L)).k.d (((cZ (aN L)).k.i:Nat):Int) (((cZ (aN L)).k.n:Nat):Int) (gW (nI (cZ (aN L)).s) (oa j9 1) (nb j9 1)) (.bool (cZ (aN L)).w))))] ?_))))))
  exact yX J1 (aX.mk 1 0 0 0 ([dB.mk (cZ (aN L)).k (cZ (aN L)).s (cZ (aN L)).w (oa j9 1) (nb j9 1)]) (rF j9 2 0) 1,(cZ (aN L)).l,(!(cZ (aN L)).o),nb j3 7,(kT.r ([zt])).toArray++IU (IP rM) (bV j3 7),[zt],([zt]).length+bV j3 7) (⟨cz_1 dC rfl (kdI_1 hb1).1,oS,lI (n:=w0.heap.size) (l:=[]) (ts:=[]) iH vG (IL _),Dn (eQ hs),oP.A.fresh (K:=kT) (z:=rM) rfl ([zt]) (bV j3 7),AP dC dC dC dK⟩) (fun w hS=>(hS.GH (e:=59) (fr:=(0,0)) 3 (kK_one (dB.mk (cZ (aN L)).k (cZ (aN L)).s (cZ (aN L)).w (oa j9 1) (nb j9 1))) oS (fun p hp=>by rw [IV.1 hp];exact ckp_ok _ _ _) (fun w hF=>(KjF.one hF.1)) ap9_2 []).dP (fun w hF=>⟨hF.1,bY.zt bY.nil,trivial⟩))
 refine aY f32 3 [0,2,3,37] [] [pt g,vF,vF] (lS g (Di S L j3)) (jY 1<|l7 [0] (gJ g S L false (BF j3) [107,101,121,40] hb1 hs hl dC)<|jX 1) (oN ?_)
 rcases jO (JU L [109,117,108,116,105,40]) with hb2 | hb2
 ·refine aY f32 3 [0,2,3,45] [] [pt g,vT,vT] (lS g (Di S (aN L) j3)) (jY 1<|l7 [0] (nJ g S L (BF j3) [109,117,108,116,105,40] hb2 (DJ hb1 hb2).2 hs hl dC)<|jX 1) (oY (aY f32 2 [0,2,3] [] [bG j4 0,JO] [(1,(jD 2 j4 0 (kJ 2 0 0 0 vz) 50))] (jE [[],[2]]) (aY f32 5 [0,2,3] [] [pt g,vu (o8 (aN L)),vn (o8 (aN L)),bH j4 0 1,JO] [(1,(qy121 g S (iU (aN L)) (!jV (aN L)) j3)),(4,(jD 2 j4 0 (qy129 L) 50))] (jY 1<|l7 [0] (wI g S (aN L) false (BF j3) (eQ hs) hl)<|DV (o8 (aN L):Int) (o8 (aN L)) (pY (oA (Ac (aN L))))<|jE [[],[2]]) (aJ ?_))))
  refine oLF (σ:=(Nat × (LU) × Bool) ⊕ (Nat × (LU) × Bool × (List dB) × Nat × (Array JP) × Nat)) (fun s=>match s with | Ja ⟨_,_,_⟩=>(fun _=>True) | I4 ⟨_,_,_,N,_,_,_⟩=>(fun w=>KjF w0 w N/\True)) (fun s=>match s with | Ja ⟨_,_,_⟩=>(Gl g j4) | I4 ⟨_,_,_,_,_,_,_⟩=>(Gl g j4)) (fun s=>match s with | Ja ⟨_,X,b⟩=>[(g,(cL #[aU S,iK S X,.bool b,BF j3] 74)),(nb j3 7,(oM (kT.r ([zt])) (IP rM) (bV j3 7) 50)),(nb j4 0,(bM (qy129 L)))] | I4 ⟨_,X,b,N,q3,C3,κ3⟩=>[(g,(cL #[aU S,iK S X,.bool b,BF j3] 74)),(nb j3 7,(oM (kT.r ([zt])) (IP rM) (bV j3 7) 50)),(nb j4 0,(bM (qy174 L q3 N.length κ3))),(q3,(iJ C3))]) (fun s=>match s with | Ja ⟨f2,_,_⟩=>f2 | I4 ⟨f2,_,_,_,_,_,_⟩=>f2)
   (fun s=>match s with | Ja ⟨f2,X,b⟩=>(b=true\/X.length<f2)/\(0+X.length<=20001)/\(uH f2 [] X b=uH ((iU (aN L)).length+1) [] (iU (aN L)) (!jV (aN L)))/\(X <:+ S) | I4 ⟨f2,X,b,N,q3,C3,κ3⟩=>(b=true\/X.length<f2)/\(N.length+X.length<=20001)/\(uH f2 (N.map dB.er) X b=uH ((iU (aN L)).length+1) [] (iU (aN L)) (!jV (aN L)))/\(X <:+ S)/\(kK.A C3 N κ3)/\(∀ p∈N,p.Ok)/\(w0.heap.size<=q3)) (Ja ((iU (aN L)).length+1,iU (aN L),(!jV (aN L)))) (⟨I5 (Jo _),(by have q1:=yJ (aN L);have q2:=gU L;have:=hs.length_le;omega),rfl,kZ (eQ hs)⟩) (fun w hF=>hF) [] ?_
  rintro (⟨f2,X,b⟩ | ⟨f2,X,b,N,q3,C3,κ3⟩)
  ·rintro ⟨hf,ha,hr,hX⟩
   refine aC ?_
   rcases jO b with hb3 | hb3
   ·subst hb3
    refine jM f32 9 [0,2,3,61] [] [pt g,pt g,jp g 2,vT,vF,vF,JO,JO,vF] [[],[],[],[0],[],[],[],[],[]] (oN (bC (aF (aF (aO (aH (aA (uF [(0,(pt g)),(2,(vi 0)),(3,(bG j4 0)),(61,vF)] [(g,(cL #[aU S,iK S X,vT,BF j3] 74)),(nb j3 7,(oM (kT.r ([zt])) (IP rM) (bV j3 7) 50)),(nb j4 0,(bM (qy129 L)))] ?_))))))))
    exact yX J1 (aX.mk 2 (o8 (aN L):Int) 0 0 ([]) none 0,X,true,nb j3 7,(kT.r ([zt])).toArray++IU (IP rM) (bV j3 7),[zt],([zt]).length+bV j3 7) (⟨cz_2 dC rfl (DJ hb1 hb2).1 (ckl_b hr.symm.symm),oS,lI (n:=w0.heap.size) (l:=[]) (ts:=[]) iH vG (IL _),hX,oP.A.fresh (K:=kT) (z:=rM) rfl ([zt]) (bV j3 7),AP dC cdm dC dK⟩) (fun w hS=>(hS.vJ []).dP (fun w hF=>⟨hF.1,bY.zt bY.nil,trivial⟩))
   subst hb3
   rcases jO (JU X [44]) with hb4 | hb4
   ·refine aY f32 9 [0,2,3,61] [] [pt g,pt g,jp g 2,vF,vT,vT,pt g,vT,vT] [(7,(mQ 0 g (Di S (JS X [44]) j3)))] (cR [[],[],[],[0],[],[],[]]<|l7 [0] (nV g S X false (BF j3) [44] hb4 hX hl dC)<|jX 1) (oY (aI (aA (aJ (rDf f32 [0,1,0,4,12,31,63,127] 8 [0,2,3] [1,1,1,0,1] (fun j=>let qa:=cZ (JS X [44]);let qb:=[dB.mk qa.k qa.s qa.w (oa j 3) (nb j 3)];[bH j4 0 35,vz,pt g,bW (vV qa.k.s qa.k.p qa.k.c qa.k.d (qa.k.i:Int) (qa.k.n:Int) (gW (nI qa.s) (oa j 3) (nb j 3)) (.bool (cZ (JS X [44])).w)),lY j 4 1,Gm j 5 qb.length,bH j4 0 35,JO]) (fun j=>let qa:=cZ (JS X [44]);let qb:=[dB.mk qa.k qa.s qa.w (oa j 3) (nb j 3)];[(3,(qy121 g S qa.l (!(cZ (JS X [44])).o) j3)),(4,(fB j 4 (vV qa.k.s qa.k.p qa.k.c qa.k.d (qa.k.i:Int) (qa.k.n:Int) (gW (nI qa.s) (oa j 3) (nb j 3)) (.bool (cZ (JS X [44])).w)) 59)),(5,(nw j 5 (oM (kK.r qb) (IP zKp) (bV j 5) 59))),(7,(jD 2 j4 0 (kJ 2 (o8 (aN L):Int) 0 0 (Gm j 5 qb.length)) 50))]) (fun j=>[(3,fun w=>Fi w0 w .u32 (oa j 3) (nb j 3) (nI (cZ (JS X [44])).s)),(5,fun w=>w0.heap.size<=nb j 5)]) (fun j=>(fun w=>Fi w0 w .u32 (oa j 3) (nb j 3) (nI (cZ (JS X [44])).s)/\True)) (fun j=>w0.heap.size<=nb j 5) (fun _ _ _ hf=>⟨⟨hf 3,trivial⟩,hf 5⟩) (cR [[],[2],[]]<|cX (qWJ [0] (fun _ _ w hG hK=>zY g S (JS X [44]) (BF j3) (mJ hX [44]) hl w hK (hG.pK [0] tV)))<|jY 1<|cX (o_born (qN (fun j ζ=>(fE ([dB.mk (cZ (JS X [44])).k (cZ (JS X [44])).s (cZ (JS X [44])).w (oa j 3) (nb j 3)]) (ζ.headD 0) (([dB.mk (cZ (JS X [44])).k (cZ (JS X [44])).s (cZ (JS X [44])).w (oa j 3) (nb j 3)]).length+ζ.tail.headD 0))) (fun j ζ=>(oM (kK.r ([dB.mk (cZ (JS X [44])).k (cZ (JS X [44])).s (cZ (JS X [44])).w (oa j 3) (nb j 3)])) (IP zKp) (ζ.tail.headD 0) 59)) (fun j _ _ hG=>BM (K:=kK) (ty:=48) (us:=[dB.mk (cZ (JS X [44])).k (cZ (JS X [44])).s (cZ (JS X [44])).w (oa j 3) (nb j 3)]) underlying48 (kE (sz:=45) (b:=144) (z:=zKp) kr rfl) (src_k1 (p:=(dB.mk (cZ (JS X [44])).k (cZ (JS X [44])).s (cZ (JS X [44])).w (oa j 3) (nb j 3))) underlying48 (hG.kn (g:=nb j 4) (o:=(iJ (vV (cZ (JS X [44])).k.s (cZ (JS X [44])).k.p (cZ (JS X [44])).k.c (cZ (JS X [44])).k.d (((cZ (JS X [44])).k.i:Nat):Int) (((cZ (JS X [44])).k.n:Nat):Int) (gW (nI (cZ (JS X [44])).s) (oa j 3) (nb j 3)) (.bool (cZ (JS X [44])).w)))) 35)) lb lb dC)))<|jE [[],[2]]) (fun j16 ap16_5=>aH (mD (Gl g j4) [(g,(cL #[aU S,vn (qK S (cZ (JS X [44])).l),.bool (!(cZ (JS X [44])).o),BF j3] 74)),(nb j3 7,(oM (kT.r ([zt])) (IP rM) (bV j3 7) 50)),(nb j4 0,(bM (kJ 2 (o8 (aN L):Int) 0 0 (fE ([dB.mk (cZ (JS X [44])).k (cZ (JS X [44])).s (cZ (JS X [44])).w (oa j16 3) (nb j16 3)]) (nb j16 5) (([dB.mk (cZ (JS X [44])).k (cZ (JS X [44])).s (cZ (JS X [44])).w (oa j16 3) (nb j16 3)]).length+bV j16 5))))),(nb j16 5,(oM (kK.r ([dB.mk (cZ (JS X [44])).k (cZ (JS X [44])).s (cZ (JS X [44])).w (oa j16 3) (nb j16 3)])) (IP zKp) (bV j16 5) 59))] ?_)))))))
    exact mNF (I4 (f2-1,(cZ (JS X [44])).l,!(cZ (JS X [44])).o,[dB.mk (cZ (JS X [44])).k (cZ (JS X [44])).s (cZ (JS X [44])).w (oa j16 3) (nb j16 3)],nb j16 5,(kK.r ([dB.mk (cZ (JS X [44])).k (cZ (JS X [44])).s (cZ (JS X [44])).w (oa j16 3) (nb j16 3)])).toArray++IU (IP zKp) (bV j16 5),([dB.mk (cZ (JS X [44])).k (cZ (JS X [44])).s (cZ (JS X [44])).w (oa j16 3) (nb j16 3)]).length+bV j16 5)) (by show f2-1<f2;have:=hf.elim (fun q=>IQ q) id;omega) (⟨I5 (ckl_f hf hb4),(by have q:=ckl_al ha hb4;simp only [II,IJ,IK];omega),ckl_n hf hr hb4,Dn (mJ hX [44]),oP.A.fresh (K:=kK) (z:=zKp) rfl ([dB.mk (cZ (JS X [44])).k (cZ (JS X [44])).s (cZ (JS X [44])).w (oa j16 3) (nb j16 3)]) (bV j16 5),(fun p hp=>by rw [IV.1 hp];exact ckp_ok _ _ _),ap16_5⟩) (fun w hS=>hS.dP (fun w hF=>⟨KjF.one hF.1,trivial⟩))
   refine aY f32 9 [0,2,3,61] [] [pt g,pt g,jp g 2,vF,vT,vT,pt g,vF,vF] [(7,(mQ 0 g (Di S X j3)))] (cR [[],[],[],[0],[],[],[]]<|l7 [0] (gJ g S X false (BF j3) [44] hb4 hX hl dC)<|jX 1) (oN (bC (aF (aF (aO (aH (aA (uF [(0,(pt g)),(2,(vi 0)),(3,(bG j4 0)),(61,vF)] [(g,(Di S X j3)),(nb j3 7,(oM (kT.r ([zt])) (IP rM) (bV j3 7) 50)),(nb j4 0,(bM (qy129 L)))] ?_))))))))
   exact yX J1 (aX.mk 2 (o8 (aN L):Int) 0 0 ([]) none 0,X,false,nb j3 7,(kT.r ([zt])).toArray++IU (IP rM) (bV j3 7),[zt],([zt]).length+bV j3 7) (⟨cz_2 dC rfl (DJ hb1 hb2).1 (ckl_e hf hr hb4),oS,lI (n:=w0.heap.size) (l:=[]) (ts:=[]) iH vG (IL _),hX,oP.A.fresh (K:=kT) (z:=rM) rfl ([zt]) (bV j3 7),AP dC cdm dC dK⟩) (fun w hS=>(hS.vJ []).dP (fun w hF=>⟨hF.1,bY.zt bY.nil,trivial⟩))
  rintro ⟨hf,ha,hr,hX,hA3,hNo,hq3⟩
  refine aC ?_
  rcases jO b with hb5 | hb5
  ·subst hb5
   refine jM f32 9 [0,2,3,61] [] [pt g,pt g,jp g 2,vT,vF,vF,JO,JO,vF] [[],[],[],[0],[],[],[],[],[]] (oN (bC (aF (aF (aO (aH (aA (uF [(0,(pt g)),(2,(vi 0)),(3,(bG j4 0)),(61,vF)] [(g,(cL #[aU S,iK S X,vT,BF j3] 74)),(nb j3 7,(oM (kT.r ([zt])) (IP rM) (bV j3 7) 50)),(nb j4 0,(bM (qy174 L q3 N.length κ3))),(q3,(iJ C3))] ?_))))))))
   exact yX J1 (aX.mk 2 (o8 (aN L):Int) 0 0 N (wF q3) κ3,X,true,nb j3 7,(kT.r ([zt])).toArray++IU (IP rM) (bV j3 7),[zt],([zt]).length+bV j3 7) (⟨cz_2 dC rfl (DJ hb1 hb2).1 (ckl_b hr.symm.symm),oS,lI (n:=w0.heap.size) (l:=[]) (ts:=[]) iH vG (IL _),hX,oP.A.fresh (K:=kT) (z:=rM) rfl ([zt]) (bV j3 7),AP dC cdm dC dK⟩) (fun w hS=>(hS.GH (e:=59) (fr:=(0,0)) 3 hA3 om hNo (fun w hF=>hF.1) hq3 []).dP (fun w hF=>⟨hF.1,bY.zt bY.nil,trivial⟩))
  subst hb5
  rcases jO (JU X [44]) with hb6 | hb6
  ·refine aY f32 9 [0,2,3,61] [] [pt g,pt g,jp g 2,vF,vT,vT,pt g,vT,vT] [(7,(mQ 0 g (Di S (JS X [44]) j3)))] (cR [[],[],[],[0],[],[],[]]<|l7 [0] (nV g S X false (BF j3) [44] hb6 hX hl dC)<|jX 1) (oY (aI (aA (aJ (rDf f32 [0,1,0,4,12,31,63,127] 8 [0,2,3] [1,1,1,1,0] (fun j=>let qa:=cZ (JS X [44]);[bH j4 0 35,vs q3 N.length κ3,pt g,bW (vV qa.k.s qa.k.p qa.k.c qa.k.d (qa.k.i:Int) (qa.k.n:Int) (gW (nI qa.s) (oa j 3) (nb j 3)) (.bool (cZ (JS X [44])).w)),lY j 4 1,gQ N ([dB.mk qa.k qa.s qa.w (oa j 3) (nb j 3)]) j 5,bH j4 0 35,JO]) (fun j=>let qa:=cZ (JS X [44]);[(3,(qy121 g S qa.l (!(cZ (JS X [44])).o) j3)),(4,(fB j 4 (vV qa.k.s qa.k.p qa.k.c qa.k.d (qa.k.i:Int) (qa.k.n:Int) (gW (nI qa.s) (oa j 3) (nb j 3)) (.bool (cZ (JS X [44])).w)) 59)),(5,(jD 3 j 5 (oc j 5) 59)),(7,(jD 2 j4 0 (kJ 2 (o8 (aN L):Int) 0 0 (gQ N ([dB.mk qa.k qa.s qa.w (oa j 3) (nb j 3)]) j 5)) 50))]) (fun j=>[(3,fun w=>Fi w0 w .u32 (oa j 3) (nb j 3) (nI (cZ (JS X [44])).s)),(5,fun w=>(kK.A (oc j 5) (N++([dB.mk (cZ (JS X [44])).k (cZ (JS X [44])).s (cZ (JS X [44])).w (oa j 3) (nb j 3)])) (bV j 5)/\(nb j 5=q3\/w0.heap.size<=nb j 5)))]) (fun j=>(fun w=>KjF w0 w N/\Fi w0 w .u32 (oa j 3) (nb j 3) (nI (cZ (JS X [44])).s)/\True)) (fun j=>(kK.A (oc j 5) (N++([dB.mk (cZ (JS X [44])).k (cZ (JS X [44])).s (cZ (JS X [44])).w (oa j 3) (nb j 3)])) (bV j 5)/\(nb j 5=q3\/w0.heap.size<=nb j 5))) (fun _ _ hF hf=>⟨⟨hF.1,hf 3,trivial⟩,hf 5⟩) (cR [[],[2],[]]<|cX (qWJ [0] (fun _ _ w hG hK=>zY g S (JS X [44]) (BF j3) (mJ hX [44]) hl w hK (hG.pK [0] tV)))<|jY 1<|cX (qM 3 (fun j _ _ hG hg=>mv_loc (Cc (K:=kK) (ty:=48) (g:=q3) (ts:=N) (us:=[dB.mk (cZ (JS X [44])).k (cZ (JS X [44])).s (cZ (JS X [44])).w (oa j 3) (nb j 3)]) underlying48 (kE (sz:=45) (b:=144) (z:=zKp) kr rfl) hA3 (src_k1 (p:=(dB.mk (cZ (JS X [44])).k (cZ (JS X [44])).s (cZ (JS X [44])).w (oa j 3) (nb j 3))) underlying48 (hG.kn (g:=nb j 4) (o:=(iJ (vV (cZ (JS X [44])).k.s (cZ (JS X [44])).k.p (cZ (JS X [44])).k.c (cZ (JS X [44])).k.d (((cZ (JS X [44])).k.i:Nat):Int) (((cZ (JS X [44])).k.n:Nat):Int) (gW (nI (cZ (JS X [44])).s) (oa j 3) (nb j 3)) (.bool (cZ (JS X [44])).w)))) 36)) oS dC hg) hG.aS.size))<|jE [[],[2]]) (fun j20 ap20_5=>aH (mD (Gl g j4) [(g,(cL #[aU S,vn (qK S (cZ (JS X [44])).l),.bool (!(cZ (JS X [44])).o),BF j3] 74)),(nb j3 7,(oM (kT.r ([zt])) (IP rM) (bV j3 7) 50)),(nb j4 0,(bM (kJ 2 (o8 (aN L):Int) 0 0 (gQ N ([dB.mk (cZ (JS X [44])).k (cZ (JS X [44])).s (cZ (JS X [44])).w (oa j20 3) (nb j20 3)]) j20 5)))),(nb j20 5,(iJ (oc j20 5)))] ?_)))))))
   exact mNF (I4 (f2-1,(cZ (JS X [44])).l,!(cZ (JS X [44])).o,N++([dB.mk (cZ (JS X [44])).k (cZ (JS X [44])).s (cZ (JS X [44])).w (oa j20 3) (nb j20 3)]),nb j20 5,oc j20 5,bV j20 5)) (by show f2-1<f2;have:=hf.elim (fun q=>IQ q) id;omega) (⟨I5 (ckl_f hf hb6),(by have q:=ckl_al ha hb6;simp only [II,IJ,IK];omega),(by rw [JH];exact ckl_n hf hr hb6),Dn (mJ hX [44]),ap20_5.1,(fun p hp=>(Jc.1 hp).elim (hNo p) (fun e=>by rw [IV.1 e];exact ckp_ok _ _ _)),(ap20_5.2.elim (fun e=>by rw [e];exact hq3) id)⟩) (fun w hS=>hS.dP (fun w hF=>⟨KjF.app hF.1 (KjF.one hF.2.1),trivial⟩))
  refine aY f32 9 [0,2,3,61] [] [pt g,pt g,jp g 2,vF,vT,vT,pt g,vF,vF] [(7,(mQ 0 g (Di S X j3)))] (cR [[],[],[],[0],[],[],[]]<|l7 [0] (gJ g S X false (BF j3) [44] hb6 hX hl dC)<|jX 1) (oN (bC (aF (aF (aO (aH (aA (uF [(0,(pt g)),(2,(vi 0)),(3,(bG j4 0)),(61,vF)] [(g,(Di S X j3)),(nb j3 7,(oM (kT.r ([zt])) (IP rM) (bV j3 7) 50)),(nb j4 0,(bM (qy174 L q3 N.length κ3))),(q3,(iJ C3))] ?_))))))))
  exact yX J1 (aX.mk 2 (o8 (aN L):Int) 0 0 N (wF q3) κ3,X,false,nb j3 7,(kT.r ([zt])).toArray++IU (IP rM) (bV j3 7),[zt],([zt]).length+bV j3 7) (⟨cz_2 dC rfl (DJ hb1 hb2).1 (ckl_e hf hr hb6),oS,lI (n:=w0.heap.size) (l:=[]) (ts:=[]) iH vG (IL _),hX,oP.A.fresh (K:=kT) (z:=rM) rfl ([zt]) (bV j3 7),AP dC cdm dC dK⟩) (fun w hS=>(hS.GH (e:=59) (fr:=(0,0)) 3 hA3 om hNo (fun w hF=>hF.1) hq3 []).dP (fun w hF=>⟨hF.1,bY.zt bY.nil,trivial⟩))
 refine aY f32 3 [0,2,3,45] [] [pt g,vF,vF] (lS g (Di S L j3)) (jY 1<|l7 [0] (gJ g S L false (BF j3) [109,117,108,116,105,40] hb2 hs hl dC)<|jX 1) (oN ?_)
 rcases jO (JU L [97,102,116,101,114,40]) with hb7 | hb7
 ·refine aY f32 3 [0,2,3,69] [] [pt g,vT,vT] (lS g (Di S (aN L) j3)) (jY 1<|l7 [0] (nJ g S L (BF j3) [97,102,116,101,114,40] hb7 (kdI_3 hb1 hb2 hb7).2 hs hl dC)<|jX 1) (oY (aY f32 2 [0,2,3] [] [bG j4 0,JO] [(1,(jD 2 j4 0 (kJ 3 0 0 0 vz) 50))] (jE [[],[2]]) (aY f32 4 [0,2,3] [] [pt g,vu (o8 (aN L)),bH j4 0 2,JO] [(1,(qy121 g S (iU (aN L)) (!jV (aN L)) j3)),(3,(jD 2 j4 0 (kJ 3 0 (o8 (aN L):Int) 0 vz) 50))] (jY 1<|l7 [0] (wI g S (aN L) false (BF j3) (eQ hs) hl)<|jE [[],[2]]) (aY f32 2 [0,2,3] [] [pt g,oH] (lS g (qy79 S (!jV (aN L)) (iU (aN L)) [44] j3)) (jY 1<|l7 [0] (oI g S (iU (aN L)) (!jV (aN L)) (BF j3) [44] (kZ (eQ hs)) hl dC)<|cN) (rSf f32 2 [0,2,3] [] (fun _=>[pt g,oH]) (fun j=>let qa:=dD f (Cu.mk (kM (!jV (aN L)) (iU (aN L)) [44]) (kX (!jV (aN L)) (iU (aN L)) [44]) ([zt]));[(1,{ puts:=[(1,nb j 1,(bM (oc j 1))),(0,g,(cL #[aU S,iK S qa.l,.bool (dD f (Cu.mk (kM (!jV (aN L)) (iU (aN L)) [44]) (kX (!jV (aN L)) (iU (aN L)) [44]) ([zt]))).b,kF j 1] 74))]})]) (fun j=>[(1,fun w=>(bY w (ot j 1)/\(kT.A (oc j 1) (ot j 1) (bV j 1)/\(ot j 1).map aX.er=(dD f (Cu.mk (kM (!jV (aN L)) (iU (aN L)) [44]) (kX (!jV (aN L)) (iU (aN L)) [44]) ([zt]))).ts/\∀ t∈(ot j 1),t∈([zt])\/sV w0.heap.size t)))]) (fun j=>(fun w=>bY w (ot j 1)/\True)) (fun j=>(kT.A (oc j 1) (ot j 1) (bV j 1)/\(ot j 1).map aX.er=(dD f (Cu.mk (kM (!jV (aN L)) (iU (aN L)) [44]) (kX (!jV (aN L)) (iU (aN L)) [44]) ([zt]))).ts/\∀ t∈(ot j 1),t∈([zt])\/sV w0.heap.size t)) (fun _ _ _ hf=>⟨⟨(hf 1).1,trivial⟩,(hf 1).2⟩) (jY 1<|cX (qMW 1 [0] (fun _ τ w hG hK hg hT hTg=>ih g (nb j3 7) S (kM (!jV (aN L)) (iU (aN L)) [44]) (kX (!jV (aN L)) (iU (aN L)) [44]) ([zt]) (([zt]).length+bV j3 7) ((kT.r ([zt])).toArray++IU (IP rM) (bV j3 7)) ([zt]) (lX (kZ (eQ hs)) (!jV (aN L)) [44]) hl oS oS (oP.A.fresh (K:=kT) (z:=rM) rfl ([zt]) (bV j3 7)) rfl w (bI.cons hg hK) (hG.pK [1,0] (fun _ _=>⟨bY.zt bY.nil,trivial⟩)) τ hG.lt (inC hTg hT) (hG.iE.mono (fun _ _=>(bY.zt bY.nil))) w0.heap.size hG.aS.size))<|cN) (fun j27 ap27_1=>aH (aA (uF (Gl g j4) [(g,(cL #[aU S,vn (qK S (dD f (Cu.mk (kM (!jV (aN L)) (iU (aN L)) [44]) (kX (!jV (aN L)) (iU (aN L)) [44]) ([zt]))).l),.bool (dD f (Cu.mk (kM (!jV (aN L)) (iU (aN L)) [44]) (kX (!jV (aN L)) (iU (aN L)) [44]) ([zt]))).b,kF j27 1] 74)),(nb j27 1,(bM (oc j27 1))),(nb j4 0,(bM (kJ 3 0 (o8 (aN L):Int) 0 vz)))] ?_))))))))
  exact yX J1 (aX.mk 3 0 (o8 (aN L)) 0 ([]) none 0,(dD f (Cu.mk (kM (!jV (aN L)) (iU (aN L)) [44]) (kX (!jV (aN L)) (iU (aN L)) [44]) ([zt]))).l,(dD f (Cu.mk (kM (!jV (aN L)) (iU (aN L)) [44]) (kX (!jV (aN L)) (iU (aN L)) [44]) ([zt]))).b,nb j27 1,oc j27 1,ot j27 1,bV j27 1) (⟨cz_3 dC rfl (kdI_3 hb1 hb2 hb7).1 (Jj rfl) ap27_1.2.1,(by have q8:=Ag ap27_1.2.1;simp only [II,IJ,IK] at *;omega),lG ap27_1.2.2 (lI (n:=w0.heap.size) (l:=[]) (ts:=[]) iH vG (IL _)) (IL _),rV f (Cu.mk (kM (!jV (aN L)) (iU (aN L)) [44]) (kX (!jV (aN L)) (iU (aN L)) [44]) ([zt])) (lX (kZ (eQ hs)) (!jV (aN L)) [44]),ap27_1.1,AP dC dC (Ac _) dK⟩) (fun w hS=>(hS.vJ []).dP (fun w hF=>⟨hF.1,hF.2.1,trivial⟩))
 refine aY f32 3 [0,2,3,69] [] [pt g,vF,vF] (lS g (Di S L j3)) (jY 1<|l7 [0] (gJ g S L false (BF j3) [97,102,116,101,114,40] hb7 hs hl dC)<|jX 1) (oN ?_)
 rcases jO (JU L [111,108,100,101,114,40]) with hb8 | hb8
 ·refine aY f32 3 [0,2,3,80] [] [pt g,vT,vT] (lS g (Di S (aN L) j3)) (jY 1<|l7 [0] (nJ g S L (BF j3) [111,108,100,101,114,40] hb8 (kdI_4 hb1 hb2 hb7 hb8).2 hs hl dC)<|jX 1) (oY (aY f32 2 [0,2,3] [] [bG j4 0,JO] [(1,(jD 2 j4 0 (kJ 4 0 0 0 vz) 50))] (jE [[],[2]]) (aY f32 4 [0,2,3] [] [pt g,vu (o8 (aN L)),bH j4 0 2,JO] [(1,(qy121 g S (iU (aN L)) (!jV (aN L)) j3)),(3,(jD 2 j4 0 (kJ 4 0 (o8 (aN L):Int) 0 vz) 50))] (jY 1<|l7 [0] (wI g S (aN L) false (BF j3) (eQ hs) hl)<|jE [[],[2]]) (aY f32 2 [0,2,3] [] [pt g,oH] (lS g (qy79 S (!jV (aN L)) (iU (aN L)) [44] j3)) (jY 1<|l7 [0] (oI g S (iU (aN L)) (!jV (aN L)) (BF j3) [44] (kZ (eQ hs)) hl dC)<|cN) (rSf f32 2 [0,2,3] [] (fun _=>[pt g,oH]) (fun j=>let qa:=dD f (Cu.mk (kM (!jV (aN L)) (iU (aN L)) [44]) (kX (!jV (aN L)) (iU (aN L)) [44]) ([zt]));[(1,{ puts:=[(1,nb j 1,(bM (oc j 1))),(0,g,(cL #[aU S,iK S qa.l,.bool (dD f (Cu.mk (kM (!jV (aN L)) (iU (aN L)) [44]) (kX (!jV (aN L)) (iU (aN L)) [44]) ([zt]))).b,kF j 1] 74))]})]) (fun j=>[(1,fun w=>(bY w (ot j 1)/\(kT.A (oc j 1) (ot j 1) (bV j 1)/\(ot j 1).map aX.er=(dD f (Cu.mk (kM (!jV (aN L)) (iU (aN L)) [44]) (kX (!jV (aN L)) (iU (aN L)) [44]) ([zt]))).ts/\∀ t∈(ot j 1),t∈([zt])\/sV w0.heap.size t)))]) (fun j=>(fun w=>bY w (ot j 1)/\True)) (fun j=>(kT.A (oc j 1) (ot j 1) (bV j 1)/\(ot j 1).map aX.er=(dD f (Cu.mk (kM (!jV (aN L)) (iU (aN L)) [44]) (kX (!jV (aN L)) (iU (aN L)) [44]) ([zt]))).ts/\∀ t∈(ot j 1),t∈([zt])\/sV w0.heap.size t)) (fun _ _ _ hf=>⟨⟨(hf 1).1,trivial⟩,(hf 1).2⟩) (jY 1<|cX (qMW 1 [0] (fun _ τ w hG hK hg hT hTg=>ih g (nb j3 7) S (kM (!jV (aN L)) (iU (aN L)) [44]) (kX (!jV (aN L)) (iU (aN L)) [44]) ([zt]) (([zt]).length+bV j3 7) ((kT.r ([zt])).toArray++IU (IP rM) (bV j3 7)) ([zt]) (lX (kZ (eQ hs)) (!jV (aN L)) [44]) hl oS oS (oP.A.fresh (K:=kT) (z:=rM) rfl ([zt]) (bV j3 7)) rfl w (bI.cons hg hK) (hG.pK [1,0] (fun _ _=>⟨bY.zt bY.nil,trivial⟩)) τ hG.lt (inC hTg hT) (hG.iE.mono (fun _ _=>(bY.zt bY.nil))) w0.heap.size hG.aS.size))<|cN) (fun j33 ap33_1=>aH (aA (uF (Gl g j4) [(g,(cL #[aU S,vn (qK S (dD f (Cu.mk (kM (!jV (aN L)) (iU (aN L)) [44]) (kX (!jV (aN L)) (iU (aN L)) [44]) ([zt]))).l),.bool (dD f (Cu.mk (kM (!jV (aN L)) (iU (aN L)) [44]) (kX (!jV (aN L)) (iU (aN L)) [44]) ([zt]))).b,kF j33 1] 74)),(nb j33 1,(bM (oc j33 1))),(nb j4 0,(bM (kJ 4 0 (o8 (aN L):Int) 0 vz)))] ?_))))))))
  exact yX J1 (aX.mk 4 0 (o8 (aN L)) 0 ([]) none 0,(dD f (Cu.mk (kM (!jV (aN L)) (iU (aN L)) [44]) (kX (!jV (aN L)) (iU (aN L)) [44]) ([zt]))).l,(dD f (Cu.mk (kM (!jV (aN L)) (iU (aN L)) [44]) (kX (!jV (aN L)) (iU (aN L)) [44]) ([zt]))).b,nb j33 1,oc j33 1,ot j33 1,bV j33 1) (⟨cz_3 dC rfl (kdI_4 hb1 hb2 hb7 hb8).1 (I5 rfl) ap33_1.2.1,(by have q8:=Ag ap33_1.2.1;simp only [II,IJ,IK] at *;omega),lG ap33_1.2.2 (lI (n:=w0.heap.size) (l:=[]) (ts:=[]) iH vG (IL _)) (IL _),rV f (Cu.mk (kM (!jV (aN L)) (iU (aN L)) [44]) (kX (!jV (aN L)) (iU (aN L)) [44]) ([zt])) (lX (kZ (eQ hs)) (!jV (aN L)) [44]),ap33_1.1,AP dC dC (Ac _) dK⟩) (fun w hS=>(hS.vJ []).dP (fun w hF=>⟨hF.1,hF.2.1,trivial⟩))
 refine aY f32 3 [0,2,3,80] [] [pt g,vF,vF] (lS g (Di S L j3)) (jY 1<|l7 [0] (gJ g S L false (BF j3) [111,108,100,101,114,40] hb8 hs hl dC)<|jX 1) (oN ?_)
 rcases jO (JU L [104,97,115,104,40]) with hb9 | hb9
 ·refine aY f32 3 [0,2,3,91] [] [pt g,vT,vT] (lS g (Di S (aN L) j3)) (jY 1<|l7 [0] (nJ g S L (BF j3) [104,97,115,104,40] hb9 (kdI_5 hb1 hb2 hb7 hb8 hb9).2 hs hl dC)<|jX 1) (oY (aY f32 2 [0,2,3] [] [bG j4 0,JO] [(1,(jD 2 j4 0 (kJ 5 0 0 0 vz) 50))] (jE [[],[2]]) (?_)))
  rcases jO (lC 32 (aN L)) with hb10 | hb10
  ·refine sDf f32 [0,1,0,4,15] 5 [0,2,3] [] (fun j=>[bH j4 0 3,CP (hL 0) (rF j4 0 3),pt g,gW (iL 32 (aN L)) (oa j 3) (nb j 3),CG (iL 32 (aN L))]) (fun _=>[(3,(qy121 g S (lW 32 (aN L)) (!lC 32 (aN L)) j3)),(4,(jD 2 j4 0 (kJ 5 0 0 (nB ((iL 32 (aN L)).take 32)) vz) 50))]) (fun j=>[(3,fun w=>Fs w0 w (oa j 3) (nb j 3) (iL 32 (aN L)))]) (fun j=>(fun w=>Fs w0 w (oa j 3) (nb j 3) (iL 32 (aN L))/\True)) (fun _=>True) (fun _ _ _ hf=>⟨⟨hf 3,trivial⟩,trivial⟩) (jY 3<|cX (qWB [0] (fun _ _ w hG hK=>CO g S (aN L) false (BF j3) 32 (eQ hs) hl dC w hK (hG.pK [0] tV)))<|cX (pR _ 2 (fun j=>do pure (Jk (<- JC #[35,35] 3 #[qy202 j4 0 3 32,gW (iL 32 (aN L)) (oa j 3) (nb j 3)]))) (fun _=>nb j4 0) (fun _=>(bM (kJ 5 0 0 0 vz))) (fun _=>(bM (kJ 5 0 0 (nB ((iL 32 (aN L)).take 32)) vz))) (fun _=>(CG (iL 32 (aN L)))) (fun _=>kr) (fun _=>kr) (fun _=>kr) (fun _=>kr) tV (fun j _ w hG hg=>(by as_aux_lemma=>(rw [<- copy_tm 5 0 0 0 vz (xs:=iL 32 (aN L)) (Jg (Fh hb10).symm)];exact wM underlying35 uT hg (show Fs w0 w (oa j 3) (nb j 3) (iL 32 (aN L)) from (hG.facts 3 rfl).now).1 rfl (by rw [yU];decide)))))<|cN) (fun j37 _=>aY f32 2 [0,2,3] [] [pt g,oH] (lS g (qy79 S (!lC 32 (aN L)) (lW 32 (aN L)) [44] j3)) (jY 1<|l7 [0] (oI g S (lW 32 (aN L)) (!lC 32 (aN L)) (BF j3) [44] (qX (eQ hs) 32) hl dC)<|cN) (uF (Gl g j4) [(g,(qy79 S (!lC 32 (aN L)) (lW 32 (aN L)) [44] j3)),(nb j3 7,(oM (kT.r ([zt])) (IP rM) (bV j3 7) 50)),(nb j4 0,(bM (kJ 5 0 0 (nB ((iL 32 (aN L)).take 32)) vz)))] (rSf f32 2 [0,2,3] [] (fun _=>[pt g,oH]) (fun j=>let qa:=dD f (Cu.mk (kM (!lC 32 (aN L)) (lW 32 (aN L)) [44]) (kX (!lC 32 (aN L)) (lW 32 (aN L)) [44]) ([zt]));[(1,{ puts:=[(1,nb j 1,(bM (oc j 1))),(0,g,(cL #[aU S,iK S qa.l,.bool (dD f (Cu.mk (kM (!lC 32 (aN L)) (lW 32 (aN L)) [44]) (kX (!lC 32 (aN L)) (lW 32 (aN L)) [44]) ([zt]))).b,kF j 1] 74))]})]) (fun j=>[(1,fun w=>(bY w (ot j 1)/\(kT.A (oc j 1) (ot j 1) (bV j 1)/\(ot j 1).map aX.er=(dD f (Cu.mk (kM (!lC 32 (aN L)) (lW 32 (aN L)) [44]) (kX (!lC 32 (aN L)) (lW 32 (aN L)) [44]) ([zt]))).ts/\∀ t∈(ot j 1),t∈([zt])\/sV w0.heap.size t)))]) (fun j=>(fun w=>Fs w0 w (oa j37 3) (nb j37 3) (iL 32 (aN L))/\bY w (ot j 1)/\True)) (fun j=>(kT.A (oc j 1) (ot j 1) (bV j 1)/\(ot j 1).map aX.er=(dD f (Cu.mk (kM (!lC 32 (aN L)) (lW 32 (aN L)) [44]) (kX (!lC 32 (aN L)) (lW 32 (aN L)) [44]) ([zt]))).ts/\∀ t∈(ot j 1),t∈([zt])\/sV w0.heap.size t)) (fun _ _ hF hf=>⟨⟨hF.1,(hf 1).1,trivial⟩,(hf 1).2⟩) (jY 1<|cX (qMW 1 [0] (fun _ τ w hG hK hg hT hTg=>ih g (nb j3 7) S (kM (!lC 32 (aN L)) (lW 32 (aN L)) [44]) (kX (!lC 32 (aN L)) (lW 32 (aN L)) [44]) ([zt]) (([zt]).length+bV j3 7) ((kT.r ([zt])).toArray++IU (IP rM) (bV j3 7)) ([zt]) (lX (qX (eQ hs) 32) (!lC 32 (aN L)) [44]) hl oS oS (oP.A.fresh (K:=kT) (z:=rM) rfl ([zt]) (bV j3 7)) rfl w (bI.cons hg hK) (hG.pK [1,0] (fun _ _=>⟨bY.zt bY.nil,trivial⟩)) τ hG.lt (inC hTg hT) (hG.iE.mono (fun _ _=>(bY.zt bY.nil))) w0.heap.size hG.aS.size))<|cN) (fun j39 ap39_1=>aH (aA (uF (Gl g j4) [(g,(cL #[aU S,vn (qK S (dD f (Cu.mk (kM (!lC 32 (aN L)) (lW 32 (aN L)) [44]) (kX (!lC 32 (aN L)) (lW 32 (aN L)) [44]) ([zt]))).l),.bool (dD f (Cu.mk (kM (!lC 32 (aN L)) (lW 32 (aN L)) [44]) (kX (!lC 32 (aN L)) (lW 32 (aN L)) [44]) ([zt]))).b,kF j39 1] 74)),(nb j39 1,(bM (oc j39 1))),(nb j4 0,(bM (kJ 5 0 0 (nB ((iL 32 (aN L)).take 32)) vz)))] ?_))))))
   exact yX J1 (aX.mk 5 0 0 (nB ((iL 32 (aN L)).take 32)) ([]) none 0,(dD f (Cu.mk (kM (!lC 32 (aN L)) (lW 32 (aN L)) [44]) (kX (!lC 32 (aN L)) (lW 32 (aN L)) [44]) ([zt]))).l,(dD f (Cu.mk (kM (!lC 32 (aN L)) (lW 32 (aN L)) [44]) (kX (!lC 32 (aN L)) (lW 32 (aN L)) [44]) ([zt]))).b,nb j39 1,oc j39 1,ot j39 1,bV j39 1) (⟨cz_5 dC rfl (kdI_5 hb1 hb2 hb7 hb8 hb9).1 (chH_t hb10) ap39_1.2.1,(by have q8:=Ag ap39_1.2.1;simp only [II,IJ,IK] at *;omega),lG ap39_1.2.2 (lI (n:=w0.heap.size) (l:=[]) (ts:=[]) iH vG (IL _)) (IL _),rV f (Cu.mk (kM (!lC 32 (aN L)) (lW 32 (aN L)) [44]) (kX (!lC 32 (aN L)) (lW 32 (aN L)) [44]) ([zt])) (lX (qX (eQ hs) 32) (!lC 32 (aN L)) [44]),ap39_1.1,AP dC dC dC (nB_M (by rw [IX];exact JG (Jg (Fh hb10).symm)))⟩) (fun w hS=>(hS.vJ []).dP (fun w hF=>⟨hF.1,hF.2.2.1,trivial⟩))
  refine sDf f32 [0,1,0,4,15] 5 [0,2,3] [] (fun j=>[bH j4 0 3,CP (hL 0) (rF j4 0 3),pt g,gW (iL 32 (aN L)) (oa j 3) (nb j 3),CG (iL 32 (aN L))]) (fun _=>[(3,(qy121 g S (lW 32 (aN L)) (!lC 32 (aN L)) j3)),(4,(jD 2 j4 0 (kJ 5 0 0 0 vz) 50))]) (fun j=>[(3,fun w=>Fs w0 w (oa j 3) (nb j 3) (iL 32 (aN L)))]) (fun j=>(fun w=>Fs w0 w (oa j 3) (nb j 3) (iL 32 (aN L))/\True)) (fun _=>True) (fun _ _ _ hf=>⟨⟨hf 3,trivial⟩,trivial⟩) (jY 3<|cX (qWB [0] (fun _ _ w hG hK=>CO g S (aN L) false (BF j3) 32 (eQ hs) hl dC w hK (hG.pK [0] tV)))<|cX (pR _ 2 (fun j=>do pure (Jk (<- JC #[35,35] 3 #[qy202 j4 0 3 32,gW (iL 32 (aN L)) (oa j 3) (nb j 3)]))) (fun _=>nb j4 0) (fun _=>(bM (kJ 5 0 0 0 vz))) (fun _=>(bM (kJ 5 0 0 0 vz))) (fun _=>(CG (iL 32 (aN L)))) (fun _=>kr) (fun _=>kr) (fun _=>kr) (fun _=>kr) tV (fun j _ w hG hg=>(by as_aux_lemma=>(rw [<- He 5 0 0 0 vz (xs:=iL 32 (aN L)) (ch_f hb10).1];exact wM underlying35 uT hg (show Fs w0 w (oa j 3) (nb j 3) (iL 32 (aN L)) from (hG.facts 3 rfl).now).1 rfl (by rw [yU];decide)))))<|cN) (fun j40 _=>aY f32 2 [0,2,3] [] [pt g,oH] (lS g (qy79 S (!lC 32 (aN L)) (lW 32 (aN L)) [44] j3)) (jY 1<|l7 [0] (oI g S (lW 32 (aN L)) (!lC 32 (aN L)) (BF j3) [44] (qX (eQ hs) 32) hl dC)<|cN) (uF (Gl g j4) [(g,(qy79 S (!lC 32 (aN L)) (lW 32 (aN L)) [44] j3)),(nb j3 7,(oM (kT.r ([zt])) (IP rM) (bV j3 7) 50)),(nb j4 0,(bM (kJ 5 0 0 0 vz)))] (rSf f32 2 [0,2,3] [] (fun _=>[pt g,oH]) (fun j=>let qa:=dD f (Cu.mk (kM (!lC 32 (aN L)) (lW 32 (aN L)) [44]) (kX (!lC 32 (aN L)) (lW 32 (aN L)) [44]) ([zt]));[(1,{ puts:=[(1,nb j 1,(bM (oc j 1))),(0,g,(cL #[aU S,iK S qa.l,.bool (dD f (Cu.mk (kM (!lC 32 (aN L)) (lW 32 (aN L)) [44]) (kX (!lC 32 (aN L)) (lW 32 (aN L)) [44]) ([zt]))).b,kF j 1] 74))]})]) (fun j=>[(1,fun w=>(bY w (ot j 1)/\(kT.A (oc j 1) (ot j 1) (bV j 1)/\(ot j 1).map aX.er=(dD f (Cu.mk (kM (!lC 32 (aN L)) (lW 32 (aN L)) [44]) (kX (!lC 32 (aN L)) (lW 32 (aN L)) [44]) ([zt]))).ts/\∀ t∈(ot j 1),t∈([zt])\/sV w0.heap.size t)))]) (fun j=>(fun w=>Fs w0 w (oa j40 3) (nb j40 3) (iL 32 (aN L))/\bY w (ot j 1)/\True)) (fun j=>(kT.A (oc j 1) (ot j 1) (bV j 1)/\(ot j 1).map aX.er=(dD f (Cu.mk (kM (!lC 32 (aN L)) (lW 32 (aN L)) [44]) (kX (!lC 32 (aN L)) (lW 32 (aN L)) [44]) ([zt]))).ts/\∀ t∈(ot j 1),t∈([zt])\/sV w0.heap.size t)) (fun _ _ hF hf=>⟨⟨hF.1,(hf 1).1,trivial⟩,(hf 1).2⟩) (jY 1<|cX (qMW 1 [0] (fun _ τ w hG hK hg hT hTg=>ih g (nb j3 7) S (kM (!lC 32 (aN L)) (lW 32 (aN L)) [44]) (kX (!lC 32 (aN L)) (lW 32 (aN L)) [44]) ([zt]) (([zt]).length+bV j3 7) ((kT.r ([zt])).toArray++IU (IP rM) (bV j3 7)) ([zt]) (lX (qX (eQ hs) 32) (!lC 32 (aN L)) [44]) hl oS oS (oP.A.fresh (K:=kT) (z:=rM) rfl ([zt]) (bV j3 7)) rfl w (bI.cons hg hK) (hG.pK [1,0] (fun _ _=>⟨bY.zt bY.nil,trivial⟩)) τ hG.lt (inC hTg hT) (hG.iE.mono (fun _ _=>(bY.zt bY.nil))) w0.heap.size hG.aS.size))<|cN) (fun j42 ap42_1=>aH (aA (uF (Gl g j4) [(g,(cL #[aU S,vn (qK S (dD f (Cu.mk (kM (!lC 32 (aN L)) (lW 32 (aN L)) [44]) (kX (!lC 32 (aN L)) (lW 32 (aN L)) [44]) ([zt]))).l),.bool (dD f (Cu.mk (kM (!lC 32 (aN L)) (lW 32 (aN L)) [44]) (kX (!lC 32 (aN L)) (lW 32 (aN L)) [44]) ([zt]))).b,kF j42 1] 74)),(nb j42 1,(bM (oc j42 1))),(nb j4 0,(bM (kJ 5 0 0 0 vz)))] ?_))))))
  exact yX J1 (aX.mk 5 0 0 0 ([]) none 0,(dD f (Cu.mk (kM (!lC 32 (aN L)) (lW 32 (aN L)) [44]) (kX (!lC 32 (aN L)) (lW 32 (aN L)) [44]) ([zt]))).l,(dD f (Cu.mk (kM (!lC 32 (aN L)) (lW 32 (aN L)) [44]) (kX (!lC 32 (aN L)) (lW 32 (aN L)) [44]) ([zt]))).b,nb j42 1,oc j42 1,ot j42 1,bV j42 1) (⟨cz_5 dC rfl (kdI_5 hb1 hb2 hb7 hb8 hb9).1 (chH_f hb10) ap42_1.2.1,(by have q8:=Ag ap42_1.2.1;simp only [II,IJ,IK] at *;omega),lG ap42_1.2.2 (lI (n:=w0.heap.size) (l:=[]) (ts:=[]) iH vG (IL _)) (IL _),rV f (Cu.mk (kM (!lC 32 (aN L)) (lW 32 (aN L)) [44]) (kX (!lC 32 (aN L)) (lW 32 (aN L)) [44]) ([zt])) (lX (qX (eQ hs) 32) (!lC 32 (aN L)) [44]),ap42_1.1,AP dC dC dC dK⟩) (fun w hS=>(hS.vJ []).dP (fun w hF=>⟨hF.1,hF.2.2.1,trivial⟩))
 refine aY f32 3 [0,2,3,91] [] [pt g,vF,vF] (lS g (Di S L j3)) (jY 1<|l7 [0] (gJ g S L false (BF j3) [104,97,115,104,40] hb9 hs hl dC)<|jX 1) (oN ?_)
 rcases jO (JU L [101,105,116,104,101,114,40]) with hb11 | hb11
 ·refine aY f32 3 [0,2,3,104] [] [pt g,vT,vT] (lS g (Di S (aN L) j3)) (jY 1<|l7 [0] (nJ g S L (BF j3) [101,105,116,104,101,114,40] hb11 (kdI_6 hb1 hb2 hb7 hb8 hb9 hb11).2 hs hl dC)<|jX 1) (oY (aY f32 2 [0,2,3] [] [bG j4 0,JO] [(1,(jD 2 j4 0 (kJ 6 0 0 0 vz) 50))] (jE [[],[2]]) (wW f32 2 [0,2,3] [] (fun _=>[pt g,oH]) (fun j=>[(1,{ puts:=[(1,nb j 1,(bM (oc j 1))),(0,g,(cL #[aU S,vn (qK S (dD f (Cu.mk (aN L) false ([zt]))).l),.bool (dD f (Cu.mk (aN L) false ([zt]))).b,kF j 1] 74))]})]) (fun j=>[(1,fun w=>(bY w (ot j 1)/\(kT.A (oc j 1) (ot j 1) (bV j 1)/\(ot j 1).map aX.er=(dD f (Cu.mk (aN L) false ([zt]))).ts/\∀ t∈(ot j 1),t∈([zt])\/sV w0.heap.size t)))]) (fun j=>(fun w=>bY w (ot j 1)/\True)) (fun j=>(kT.A (oc j 1) (ot j 1) (bV j 1)/\(ot j 1).map aX.er=(dD f (Cu.mk (aN L) false ([zt]))).ts/\∀ t∈(ot j 1),t∈([zt])\/sV w0.heap.size t)) (fun _ _ _ hf=>⟨⟨(hf 1).1,trivial⟩,(hf 1).2⟩) (jY 1<|cX (qMW 1 [0] (fun _ τ w hG hK hg hT hTg=>ih g (nb j3 7) S (aN L) false ([zt]) (([zt]).length+bV j3 7) ((kT.r ([zt])).toArray++IU (IP rM) (bV j3 7)) ([zt]) (eQ hs) hl oS oS (oP.A.fresh (K:=kT) (z:=rM) rfl ([zt]) (bV j3 7)) rfl w (bI.cons hg hK) (hG.pK [1,0] (fun _ _=>⟨bY.zt bY.nil,trivial⟩)) τ hG.lt (inC hTg hT) (hG.iE.mono (fun _ _=>(bY.zt bY.nil))) w0.heap.size hG.aS.size))<|cN) (fun j46 ap46_1=>uF (Gl g j4) [(g,(cL #[aU S,vn (qK S (dD f (Cu.mk (aN L) false ([zt]))).l),.bool (dD f (Cu.mk (aN L) false ([zt]))).b,kF j46 1] 74)),(nb j46 1,(bM (oc j46 1))),(nb j4 0,(bM (kJ 6 0 0 0 vz)))] (aY f32 2 [0,2,3] [] [pt g,oH] (lS g (cL #[aU S,iK S (kM (dD f (Cu.mk (aN L) false ([zt]))).b (dD f (Cu.mk (aN L) false ([zt]))).l [44]),.bool (kX (dD f (Cu.mk (aN L) false ([zt]))).b (dD f (Cu.mk (aN L) false ([zt]))).l [44]),kF j46 1] 74)) (jY 1<|l7 [0] (oI g S (dD f (Cu.mk (aN L) false ([zt]))).l (dD f (Cu.mk (aN L) false ([zt]))).b (kF j46 1) [44] (rV f (Cu.mk (aN L) false ([zt])) (eQ hs)) hl dC)<|cN) (rSf f32 2 [0,2,3] [] (fun _=>[pt g,oH]) (fun j=>let qa:=dD f (Cu.mk (kM (dD f (Cu.mk (aN L) false ([zt]))).b (dD f (Cu.mk (aN L) false ([zt]))).l [44]) (kX (dD f (Cu.mk (aN L) false ([zt]))).b (dD f (Cu.mk (aN L) false ([zt]))).l [44]) (dD f (Cu.mk (aN L) false ([zt]))).ts);[(1,{ puts:=[(1,nb j 1,(bM (oc j 1))),(0,g,(cL #[aU S,iK S qa.l,.bool (dD f (Cu.mk (kM (dD f (Cu.mk (aN L) false ([zt]))).b (dD f (Cu.mk (aN L) false ([zt]))).l [44]) (kX (dD f (Cu.mk (aN L) false ([zt]))).b (dD f (Cu.mk (aN L) false ([zt]))).l [44]) (dD f (Cu.mk (aN L) false ([zt]))).ts)).b,kF j 1] 74))]})]) (fun j=>[(1,fun w=>(bY w (ot j 1)/\(kT.A (oc j 1) (ot j 1) (bV j 1)/\(ot j 1).map aX.er=(dD f (Cu.mk (kM (dD f (Cu.mk (aN L) false ([zt]))).b (dD f (Cu.mk (aN L) false ([zt]))).l [44]) (kX (dD f (Cu.mk (aN L) false ([zt]))).b (dD f (Cu.mk (aN L) false ([zt]))).l [44]) (dD f (Cu.mk (aN L) false ([zt]))).ts)).ts/\∀ t∈(ot j 1),t∈(ot j46 1)\/sV w0.heap.size t)))]) (fun j=>(fun w=>bY w (ot j46 1)/\bY w (ot j 1)/\True)) (fun j=>(kT.A (oc j 1) (ot j 1) (bV j 1)/\(ot j 1).map aX.er=(dD f (Cu.mk (kM (dD f (Cu.mk (aN L) false ([zt]))).b (dD f (Cu.mk (aN L) false ([zt]))).l [44]) (kX (dD f (Cu.mk (aN L) false ([zt]))).b (dD f (Cu.mk (aN L) false ([zt]))).l [44]) (dD f (Cu.mk (aN L) false ([zt]))).ts)).ts/\∀ t∈(ot j 1),t∈(ot j46 1)\/sV w0.heap.size t)) (fun _ _ hF hf=>⟨⟨hF.1,(hf 1).1,trivial⟩,(hf 1).2⟩) (jY 1<|cX (qMW 1 [0] (fun _ τ w hG hK hg hT hTg=>ih g (nb j46 1) S (kM (dD f (Cu.mk (aN L) false ([zt]))).b (dD f (Cu.mk (aN L) false ([zt]))).l [44]) (kX (dD f (Cu.mk (aN L) false ([zt]))).b (dD f (Cu.mk (aN L) false ([zt]))).l [44]) (ot j46 1) (bV j46 1) (oc j46 1) (dD f (Cu.mk (aN L) false ([zt]))).ts (lX (rV f (Cu.mk (aN L) false ([zt])) (eQ hs)) (dD f (Cu.mk (aN L) false ([zt]))).b [44]) hl (by have q8:=Ag ap46_1.2.1;simp only [II,IJ,IK] at *;omega) (by have q8:=Ag ap46_1.2.1;have:=h9;simp only [II,IJ,IK] at *;omega) ap46_1.1 ap46_1.2.1 w (bI.cons hg hK) (hG.pK [1,0] (fun _ hF=>⟨hF.1,trivial⟩)) τ hG.lt (inC hTg hT) (hG.iE.mono (fun _ hF=>hF.1)) w0.heap.size hG.aS.size))<|cN) (fun j48 ap48_1=>aH (aA (uF (Gl g j4) [(g,(cL #[aU S,vn (qK S (dD f (Cu.mk (kM (dD f (Cu.mk (aN L) false ([zt]))).b (dD f (Cu.mk (aN L) false ([zt]))).l [44]) (kX (dD f (Cu.mk (aN L) false ([zt]))).b (dD f (Cu.mk (aN L) false ([zt]))).l [44]) (dD f (Cu.mk (aN L) false ([zt]))).ts)).l),.bool (dD f (Cu.mk (kM (dD f (Cu.mk (aN L) false ([zt]))).b (dD f (Cu.mk (aN L) false ([zt]))).l [44]) (kX (dD f (Cu.mk (aN L) false ([zt]))).b (dD f (Cu.mk (aN L) false ([zt]))).l [44]) (dD f (Cu.mk (aN L) false ([zt]))).ts)).b,kF j48 1] 74)),(nb j48 1,(bM (oc j48 1))),(nb j4 0,(bM (kJ 6 0 0 0 vz)))] ?_)))))))))
  exact yX J1 (aX.mk 6 0 0 0 ([]) none 0,(dD f (Cu.mk (kM (dD f (Cu.mk (aN L) false ([zt]))).b (dD f (Cu.mk (aN L) false ([zt]))).l [44]) (kX (dD f (Cu.mk (aN L) false ([zt]))).b (dD f (Cu.mk (aN L) false ([zt]))).l [44]) (dD f (Cu.mk (aN L) false ([zt]))).ts)).l,(dD f (Cu.mk (kM (dD f (Cu.mk (aN L) false ([zt]))).b (dD f (Cu.mk (aN L) false ([zt]))).l [44]) (kX (dD f (Cu.mk (aN L) false ([zt]))).b (dD f (Cu.mk (aN L) false ([zt]))).l [44]) (dD f (Cu.mk (aN L) false ([zt]))).ts)).b,nb j48 1,oc j48 1,ot j48 1,bV j48 1) (⟨cz_6 dC rfl (kdI_6 hb1 hb2 hb7 hb8 hb9 hb11).1 rfl ap48_1.2.1,(by have q8:=Ag ap48_1.2.1;have r8:=cu_n f (Cu.mk (aN L) false ([zt]));simp only [II,IJ,IK] at *;omega),lG ap48_1.2.2 (lG ap46_1.2.2 (lI (n:=w0.heap.size) (l:=[]) (ts:=[]) iH vG (IL _)) (IL _)) (IL _),rV f (Cu.mk (kM (dD f (Cu.mk (aN L) false ([zt]))).b (dD f (Cu.mk (aN L) false ([zt]))).l [44]) (kX (dD f (Cu.mk (aN L) false ([zt]))).b (dD f (Cu.mk (aN L) false ([zt]))).l [44]) (dD f (Cu.mk (aN L) false ([zt]))).ts) (lX (rV f (Cu.mk (aN L) false ([zt])) (eQ hs)) (dD f (Cu.mk (aN L) false ([zt]))).b [44]),ap48_1.1,AP dC dC dC dK⟩) (fun w hS=>(hS.vJ []).dP (fun w hF=>⟨hF.1,hF.2.2.1,trivial⟩))
 refine aY f32 3 [0,2,3,104] [] [pt g,vF,vF] (lS g (Di S L j3)) (jY 1<|l7 [0] (gJ g S L false (BF j3) [101,105,116,104,101,114,40] hb11 hs hl dC)<|jX 1) (oN (lV f32 4 [0,2,3] [] [pt g,pt g,jp g 2,JO] [(3,(mQ 0 g (cL #[aU S,iK S L,vT,BF j3] 74)))] (jE x8) (aH (aA (uF (Gl g j4) [(g,(cL #[aU S,iK S L,vT,BF j3] 74)),(nb j3 7,(oM (kT.r ([zt])) (IP rM) (bV j3 7) 50)),(nb j4 0,(bM qy68))] ?_)))))
 exact yX J1 (aX.mk 0 0 0 0 ([]) none 0,L,true,nb j3 7,(kT.r ([zt])).toArray++IU (IP rM) (bV j3 7),[zt],([zt]).length+bV j3 7) (⟨cz_0 dC rfl (kdI_0 hb1 hb2 hb7 hb8 hb9 hb11).1,oS,lI (n:=w0.heap.size) (l:=[]) (ts:=[]) iH vG (IL _),hs,oP.A.fresh (K:=kT) (z:=rM) rfl ([zt]) (bV j3 7),AP dC dC dC dK⟩) (fun w hS=>(hS.vJ []).dP (fun w hF=>⟨hF.1,bY.zt bY.nil,trivial⟩))
abbrev Gt:=fun p0 p1 p2=>[(0,(pt p0)),(2,(vn p1)),(3,(bG p2 0))]
abbrev qI:=fun p0 p1=>[(1,(mQ 1 p0 p1))]
theorem rcterm1_any (f:Nat) (ih:RcC f) (g:Nat) (q:Nat) (S:LU) (L:LU) (bd:Bool) (ts:List aX) (c:Nat) (C:Array JP) (A:List aX) (hs:L <:+ S) (hl:S.length<=20000) (h8:ts.length<=8) (h9:9<=f+1+ts.length) (hA:kT.A C ts c) (hAe:ts.map aX.er=A) (w0:JQ) (hK:bI [(q,(cL C 50)),(g,(cL #[kD (dH S),vn (qK S L),.bool bd,vs q ts.length c] 74))] w0) (hP:bZ (fun b=>b∈([(q,(cL C 50)),(g,(cL #[kD (dH S),vn (qK S L),.bool bd,vs q ts.length c] 74))]:List (Nat × Obj)).map (·.1)) (fun w=>bY w ts/\True) w0) (T:Nat->Prop) (hT:∀ b,T b->b<w0.heap.size) (hW:∀ x∈([(q,.cells C 50 (0,0)),(g,.cells #[kD (dH S),wR (qK S L:Int),.bool bd,aW (wF q) ts.length c] 74 (0,0))]:List (Nat × Obj)),T x.1) (hY:bZ T (fun w=>bY w ts) w0) (n0:Nat) (hn:n0<=w0.heap.size):Calls prog 32 #[pt g] w0 (fun e w'=>∃ r:bT,e=.returned oH/\pG (fun b=>b=q\/b∈[g]) w0 w'/\bI [(g,.cells #[kD (dH S),wR (qK S (dD (f+1) (Cu.mk L bd A)).l:Int),.bool (dD (f+1) (Cu.mk L bd A)).b,aW (some ⟨r.n.headD 0,0,none⟩) r.t.length (r.n.tail.headD 0)] 74 (0,0))] w'/\(r.n.headD 0=q\/w0.heap.size<=r.n.headD 0)/\w'.heap[r.n.headD 0]? = some (bM (uO r))/\bZ (fun b=>T b\/b=r.n.headD 0) (fun w=>bY w r.t/\(kT.A (uO r) r.t (r.n.tail.headD 0)/\r.t.map aX.er=(dD (f+1) (Cu.mk L bd A)).ts/\∀ t∈r.t,t∈ts\/sV n0 t)) w'):=by
 refine Calls.nZ (n:=123) (F:=(fun w=>bY w ts/\True)) [(q,(cL C 50)),(g,(Hq S L bd q ts.length c))] func32 rfl rfl rfl (by simp) hK (nd2 hK dC) hP (aC ?_)
 rcases jO bd with hb1 | hb1
 ·subst hb1
  refine jM f32 12 [0,15] [] [pt g,pt g,jp g 2,vT,vT,JO,JO,JO,JO,JO,JO,vT] [[],[],[],[1],[],[],[],[],[],[],[],[]] (oY (aY f32 4 [0] [] [pt g,pt g,jp g 2,JO] [(3,(mQ 1 g (cL #[aU S,iK S L,vT,vs q ts.length c] 74)))] (jE [[],[],[],[1]]) (aG (aB (mD [(0,(pt g))] [(q,(cL C 50)),(g,(cL #[aU S,iK S L,vT,vs q ts.length c] 74))] ?_)))))
  exact mR (v:=oH) (fun _ hS=>(by rw [cz_bad (Jj rfl)];exact ⟨{ n:=[q,c],o:=[.cells C 0 (0,0)],t:=ts},rfl,Fv hS.aS,hS.dZ [0,1],hS.Ec [g] rfl rfl,(hS.at_ _ (.head _)).2,(hS.mvT (.head _) (wsT hW) hT hY (fun w hF=>hF.1) iH).mono (fun _ h=>⟨h,hA,hAe,iH⟩)⟩))
 subst hb1
 refine jM f32 12 [0,15] [] (let qa:JP:=.bool (decide (8<=(ts.length:Int)));[pt g,pt g,jp g 2,vF,vF,pt g,pt g,jp g 3,vs q ts.length c,vn ts.length,qa,qa]) [[],[],[],[1],[],[],[],[],[1],[],[],[]] (oC (decide (8<=(ts.length:Int))) (fun hb2=>?_) (fun hb2=>?_))
 ·rw [hb2]
  refine aY f32 4 [0] [] [pt g,pt g,jp g 2,JO] [(3,(mQ 1 g (cL #[aU S,iK S L,vT,vs q ts.length c] 74)))] (jE [[],[],[],[1]]) (aG (aB (mD [(0,(pt g))] [(q,(cL C 50)),(g,(cL #[aU S,iK S L,vT,vs q ts.length c] 74))] ?_)))
  exact mR (v:=oH) (fun _ hS=>(by rw [cz_bad (I5 (oB (eY hAe) (yT hb2)))];exact ⟨{ n:=[q,c],o:=[.cells C 0 (0,0)],t:=ts},rfl,Fv hS.aS,hS.dZ [0,1],hS.Ec [g] rfl rfl,(hS.at_ _ (.head _)).2,(hS.mvT (.head _) (wsT hW) hT hY (fun w hF=>hF.1) iH).mono (fun _ h=>⟨h,hA,hAe,iH⟩)⟩))
 rw [hb2]
 have:=yF hb2
 refine aI (aA (jM f32 6 [0,2] [] [pt g,pt g,jp g 3,vs q ts.length c,vn ts.length,vn ts.length] [[],[],[],[1],[],[]] (wW f32 11 [0,2] [1,1,0] (fun j=>[pt g,pt g,pt g,jp g 3,vs q ts.length c,.agg qy68,lY j 6 1,gQ ts ([zt]) j 7,pt g,jp g 3,JO]) (fun j=>[(6,(fB j 6 qy68 50)),(7,(jD 0 j 7 (oc j 7) 50)),(10,(mQ 1 g (cL #[aU S,iK S L,vF,gQ ts ([zt]) j 7] 74)))]) (fun j=>[(7,fun w=>kT.A (oc j 7) (ts++([zt])) (bV j 7))]) (fun _=>(fun w=>bY w ts/\True)) (fun j=>kT.A (oc j 7) (ts++([zt])) (bV j 7)) (fun _ _ hF hf=>⟨hF,hf 7⟩) (cR [[],[],[],[],[1],[],[]]<|cX (qM 0 (fun j _ _ hG hg=>Cc (K:=kT) (ty:=24) (g:=q) (ts:=ts) (us:=[zt]) underlying24 (kE (sz:=36) (b:=80) (z:=rM) kr rfl) hA (src_tn (t:=zt) underlying24 rfl (hG.kn (g:=nb j 6) (o:=(bM qy68)) 50)) oS dC hg))<|jE [[],[],[1]]) (fun j6 ap6_7=>sS f32 1 [0,2,3] [] (fun j=>[bG j 0]) (fun j=>[(0,(fB j 0 qy68 50))]) (jX 1) (fun j7=>Bd (σ:=aX × (LU) × Bool × Nat × (Array JP) × (List aX) × Nat) (fun ⟨_,_,_,_,_,_,_⟩=>(Gt g ts.length j7)) (fun ⟨y,X,b,q2,C2,l2,κ2⟩=>[(q2,(bM C2)),(g,(Hq S X b q2 l2.length κ2)),(nb j7 0,(bM (aX.row y)))]) (fun ⟨y,_,_,_,_,l2,_⟩=>(fun w=>KpN w0 w y.ka y.kc y.ks/\bY w l2/\bY w ts/\True)) (fun ⟨y,X,b,_,C2,l2,κ2⟩=>(dD (f+1) (Cu.mk L false A)=Cu.fin (Cu.mk X b (l2.map aX.er)) A.length y.er)/\(ts.length<l2.length)/\(∀ t∈l2,t∈ts\/sV w0.heap.size t)/\(X <:+ S)/\(kT.A C2 l2 κ2)/\y.Ok) ?_ ?_)))))
 ·rintro ⟨y,X,b,q2,C2,l2,κ2⟩ ⟨hz,hlen,hnw,hX,hA2,hyo⟩
  refine aY f32 2 [0,2,3] [] [pt g,oH] (qI g (Hq S (kM b X [41]) (kX b X [41]) q2 l2.length κ2)) (jY 1<|l7 [1] (oI g S X b (vs q2 l2.length κ2) [41] hX hl dC)<|cN) (rDc f32 [0,1,3,7,0,0,63,127] 8 [] [1,1,0] [pt g,pt g,jp g 3,vs q2 l2.length κ2,vn ts.length,BB y,jp q2 (ts.length*36),JO] [(7,(mQ 0 q2 (bM (lK C2 (ts.length*36) y.row.toList))))] (cR [[],[],[],[1],[],[2]]<|qSc (idx_rowN (g:=q2) (c:=κ2) (k:=.i64) underlying24 sizeOf50 (show (ts.length:Int)=(ts.length:Int) from rfl) (show ts.length<l2.length from hlen))<|cX (o_putS _ 0 (fun _=>do JA 50 (jp q2 (ts.length*36)) (BB y);pure Next.skip) (fun _=>q2) (fun _=>(bM C2)) (fun _=>(bM (lK C2 (ts.length*36) y.row.toList))) (fun _ _ _ _ hg=>st_agg (us:=y.row.toList) sizeOf50 rfl (aX.lQ y) (tm_all1 y) (kT_fit hA2 hlen y) hg))<|cN) (mt_end (mD [] [(q2,(bM (lK C2 (ts.length*36) y.row.toList))),(g,(Hq S (kM b X [41]) (kX b X [41]) q2 l2.length κ2))] ?_)))
  exact mR (v:=oH) (fun _ hS=>(by rw [hz];exact ⟨{ n:=[q2,κ2],o:=[.cells (lK C2 (ts.length*36) y.row.toList) 0 (0,0)],t:=l2.set ts.length y},rfl,Fv hS.aS,(by dsimp only;rw [Jd];exact hS.dZ [0,1]),hS.Ec [g] rfl rfl,(hS.at_ _ (.head _)).2,(hS.mvT (.head _) (wsT hW) hT hY (fun w hF=>bY.set hF.2.1 hF.1.f ts.length) (nw_put hnw (sV.of_kpn hS.facts.now.1) ts.length)).mono (fun _ h=>⟨h,kT_put hA2 hlen y,er_put rfl rfl (eY hAe),lG (n:=w0.heap.size) iH (nw_put hnw (sV.of_kpn hS.facts.now.1) ts.length) hn⟩)⟩))
 intro J1
 refine aC (aJ ?_)
 rcases jO (JU L [107,101,121,40]) with hb3 | hb3
 ·refine aY f32 3 [0,2,3,37] [] [pt g,vT,vT] (qI g (cL #[aU S,iK S (aN L),vF,gQ ts ([zt]) j6 7] 74)) (jY 1<|l7 [1] (nJ g S L (gQ ts ([zt]) j6 7) [107,101,121,40] hb3 (kdI_1 hb3).2 hs hl dC)<|jX 1) (oY (aY f32 2 [0,2,3] [] [bG j7 0,JO] [(1,(jD 2 j7 0 (kJ 1 0 0 0 vz) 50))] (jE [[],[2]]) (rSf f32 5 [0,2,3] [] (fun j=>[pt g,bW (vV (cZ (aN L)).k.s (cZ (aN L)).k.p (cZ (aN L)).k.c (cZ (aN L)).k.d (((cZ (aN L)).k.i:Nat):Int) (((cZ (aN L)).k.n:Nat):Int) (gW (nI (cZ (aN L)).s) (oa j 1) (nb j 1)) (.bool (cZ (aN L)).w)),lY j 2 1,bH j7 0 35,JO]) (fun j=>[(1,(mQ 1 g (cL #[aU S,vn (qK S (cZ (aN L)).l),.bool (!(cZ (aN L)).o),gQ ts ([zt]) j6 7] 74))),(2,(fB j 2 (vV (cZ (aN L)).k.s (cZ (aN L)).k.p (cZ (aN L)).k.c (cZ (aN L)).k.d (((cZ (aN L)).k.i:Nat):Int) (((cZ (aN L)).k.n:Nat):Int) (gW (nI (cZ (aN L)).s) (oa j 1) (nb j 1)) (.bool (cZ (aN L)).w)) 59)),(4,(jD 2 j7 0 (kJ 1 0 0 0 (lY j 2 1)) 50))]) (fun j=>[(1,fun w=>Fi w0 w .u32 (oa j 1) (nb j 1) (nI (cZ (aN L)).s)),(2,fun w=>w0.heap.size<=nb j 2)]) (fun j=>(fun w=>bY w ts/\Fi w0 w .u32 (oa j 1) (nb j 1) (nI (cZ (aN L)).s)/\True)) (fun j=>w0.heap.size<=nb j 2) (fun _ _ hF hf=>⟨⟨hF.1,hf 1,trivial⟩,hf 2⟩) (jY 1<|cX (qWJ [1] (fun _ _ w hG hK=>zY g S (aN L) (gQ ts ([zt]) j6 7) (eQ hs) hl w hK (hG.pK [1] tV)))<|cX (o_born (o_run 2 [] [] (fun _ _=>[]) (fun _ _=>by kernel_rfl)))<|jE [[],[2]]) (fun j12 ap12_2=>aH (aA (uF (Gt g ts.length j7) [(nb j6 7,(bM (oc j6 7))),(g,(cL #[aU S,vn (qK S (cZ (aN L)).l),.bool (!(cZ (aN L)).o),gQ ts ([zt]) j6 7] 74)),(nb j7 0,(bM (kJ 1 0 0 0 (lY j12 2 1)))),(nb j12 2,(iJ (vV (cZ (aN L)).k.s (cZ (aN L)).k.p (cZ (aN L)).k.c (cZ (aN L)).k.d (((cZ (aN L)).k.i:Nat):Int) (((cZ (aN L)).k.n:Nat):Int) (gW (nI (cZ (aN L)).s) (oa j12 1) (nb j12 1)) (.bool (cZ (aN L)).w))))] ?_))))))
  exact yX J1 (aX.mk 1 0 0 0 ([dB.mk (cZ (aN L)).k (cZ (aN L)).s (cZ (aN L)).w (oa j12 1) (nb j12 1)]) (rF j12 2 0) 1,(cZ (aN L)).l,(!(cZ (aN L)).o),nb j6 7,oc j6 7,ts++([zt]),bV j6 7) (⟨cz_1 (oA (eY hAe)) (ED hAe) (kdI_1 hb3).1,oS,lI (n:=w0.heap.size) (l:=ts) (ts:=ts) iH vG (IL _),Dn (eQ hs),ap6_7,AP dC dC dC dK⟩) (fun w hS=>(hS.GH (e:=59) (fr:=(0,0)) 3 (kK_one (dB.mk (cZ (aN L)).k (cZ (aN L)).s (cZ (aN L)).w (oa j12 1) (nb j12 1))) oS (fun p hp=>by rw [IV.1 hp];exact ckp_ok _ _ _) (fun w hF=>(KjF.one hF.2.1)) ap12_2 []).dP (fun w hF=>⟨hF.1,bY.zt hF.2.1,hF.2.1,trivial⟩))
 refine aY f32 3 [0,2,3,37] [] [pt g,vF,vF] (qI g (cL #[aU S,iK S L,vF,gQ ts ([zt]) j6 7] 74)) (jY 1<|l7 [1] (gJ g S L false (gQ ts ([zt]) j6 7) [107,101,121,40] hb3 hs hl dC)<|jX 1) (oN ?_)
 rcases jO (JU L [109,117,108,116,105,40]) with hb4 | hb4
 ·refine aY f32 3 [0,2,3,45] [] [pt g,vT,vT] (qI g (cL #[aU S,iK S (aN L),vF,gQ ts ([zt]) j6 7] 74)) (jY 1<|l7 [1] (nJ g S L (gQ ts ([zt]) j6 7) [109,117,108,116,105,40] hb4 (DJ hb3 hb4).2 hs hl dC)<|jX 1) (oY (aY f32 2 [0,2,3] [] [bG j7 0,JO] [(1,(jD 2 j7 0 (kJ 2 0 0 0 vz) 50))] (jE [[],[2]]) (aY f32 5 [0,2,3] [] [pt g,vu (o8 (aN L)),vn (o8 (aN L)),bH j7 0 1,JO] [(1,(mQ 1 g (cL #[aU S,iK S (iU (aN L)),.bool (!jV (aN L)),gQ ts ([zt]) j6 7] 74))),(4,(jD 2 j7 0 (qy129 L) 50))] (jY 1<|l7 [1] (wI g S (aN L) false (gQ ts ([zt]) j6 7) (eQ hs) hl)<|DV (o8 (aN L):Int) (o8 (aN L)) (pY (oA (Ac (aN L))))<|jE [[],[2]]) (aJ ?_))))
  refine oLF (σ:=(Nat × (LU) × Bool) ⊕ (Nat × (LU) × Bool × (List dB) × Nat × (Array JP) × Nat)) (fun s=>match s with | Ja ⟨_,_,_⟩=>(fun w=>bY w ts/\True) | I4 ⟨_,_,_,N,_,_,_⟩=>(fun w=>bY w ts/\KjF w0 w N/\True)) (fun s=>match s with | Ja ⟨_,_,_⟩=>(Gt g ts.length j7) | I4 ⟨_,_,_,_,_,_,_⟩=>(Gt g ts.length j7)) (fun s=>match s with | Ja ⟨_,X,b⟩=>[(nb j6 7,(bM (oc j6 7))),(g,(cL #[aU S,iK S X,.bool b,gQ ts ([zt]) j6 7] 74)),(nb j7 0,(bM (qy129 L)))] | I4 ⟨_,X,b,N,q3,C3,κ3⟩=>[(nb j6 7,(bM (oc j6 7))),(g,(cL #[aU S,iK S X,.bool b,gQ ts ([zt]) j6 7] 74)),(nb j7 0,(bM (qy174 L q3 N.length κ3))),(q3,(iJ C3))]) (fun s=>match s with | Ja ⟨f2,_,_⟩=>f2 | I4 ⟨f2,_,_,_,_,_,_⟩=>f2)
   (fun s=>match s with | Ja ⟨f2,X,b⟩=>(b=true\/X.length<f2)/\(0+X.length<=20001)/\(uH f2 [] X b=uH ((iU (aN L)).length+1) [] (iU (aN L)) (!jV (aN L)))/\(X <:+ S) | I4 ⟨f2,X,b,N,q3,C3,κ3⟩=>(b=true\/X.length<f2)/\(N.length+X.length<=20001)/\(uH f2 (N.map dB.er) X b=uH ((iU (aN L)).length+1) [] (iU (aN L)) (!jV (aN L)))/\(X <:+ S)/\(kK.A C3 N κ3)/\(∀ p∈N,p.Ok)/\(w0.heap.size<=q3)) (Ja ((iU (aN L)).length+1,iU (aN L),(!jV (aN L)))) (⟨I5 (Jo _),(by have q1:=yJ (aN L);have q2:=gU L;have:=hs.length_le;omega),rfl,kZ (eQ hs)⟩) (fun w hF=>hF) [] ?_
  rintro (⟨f2,X,b⟩ | ⟨f2,X,b,N,q3,C3,κ3⟩)
  ·rintro ⟨hf,ha,hr,hX⟩
   refine aC ?_
   rcases jO b with hb5 | hb5
   ·subst hb5
    refine jM f32 9 [0,2,3,61] [] [pt g,pt g,jp g 2,vT,vF,vF,JO,JO,vF] [[],[],[],[1],[],[],[],[],[]] (oN (bC (aF (aF (aO (aH (aA (uF [(0,(pt g)),(2,(vn ts.length)),(3,(bG j7 0)),(61,vF)] [(nb j6 7,(bM (oc j6 7))),(g,(cL #[aU S,iK S X,vT,gQ ts ([zt]) j6 7] 74)),(nb j7 0,(bM (qy129 L)))] ?_))))))))
    exact yX J1 (aX.mk 2 (o8 (aN L):Int) 0 0 ([]) none 0,X,true,nb j6 7,oc j6 7,ts++([zt]),bV j6 7) (⟨cz_2 (oA (eY hAe)) (ED hAe) (DJ hb3 hb4).1 (ckl_b hr.symm.symm),oS,lI (n:=w0.heap.size) (l:=ts) (ts:=ts) iH vG (IL _),hX,ap6_7,AP dC cdm dC dK⟩) (fun w hS=>(hS.vJ []).dP (fun w hF=>⟨hF.1,bY.zt hF.2.1,hF.2.1,trivial⟩))
   subst hb5
   rcases jO (JU X [44]) with hb6 | hb6
   ·refine aY f32 9 [0,2,3,61] [] [pt g,pt g,jp g 2,vF,vT,vT,pt g,vT,vT] [(7,(mQ 1 g (cL #[aU S,iK S (JS X [44]),vF,gQ ts ([zt]) j6 7] 74)))] (cR [[],[],[],[1],[],[],[]]<|l7 [1] (nV g S X false (gQ ts ([zt]) j6 7) [44] hb6 hX hl dC)<|jX 1) (oY (aI (aA (aJ (rDf f32 [0,1,0,4,12,31,63,127] 8 [0,2,3] [1,1,1,0,1] (fun j=>let qa:=cZ (JS X [44]);let qb:=[dB.mk qa.k qa.s qa.w (oa j 3) (nb j 3)];[bH j7 0 35,vz,pt g,bW (vV qa.k.s qa.k.p qa.k.c qa.k.d (qa.k.i:Int) (qa.k.n:Int) (gW (nI qa.s) (oa j 3) (nb j 3)) (.bool (cZ (JS X [44])).w)),lY j 4 1,Gm j 5 qb.length,bH j7 0 35,JO]) (fun j=>let qa:=cZ (JS X [44]);let qb:=[dB.mk qa.k qa.s qa.w (oa j 3) (nb j 3)];[(3,(mQ 1 g (cL #[aU S,iK S qa.l,.bool (!(cZ (JS X [44])).o),gQ ts ([zt]) j6 7] 74))),(4,(fB j 4 (vV qa.k.s qa.k.p qa.k.c qa.k.d (qa.k.i:Int) (qa.k.n:Int) (gW (nI qa.s) (oa j 3) (nb j 3)) (.bool (cZ (JS X [44])).w)) 59)),(5,(nw j 5 (oM (kK.r qb) (IP zKp) (bV j 5) 59))),(7,(jD 2 j7 0 (kJ 2 (o8 (aN L):Int) 0 0 (Gm j 5 qb.length)) 50))]) (fun j=>[(3,fun w=>Fi w0 w .u32 (oa j 3) (nb j 3) (nI (cZ (JS X [44])).s)),(5,fun w=>w0.heap.size<=nb j 5)]) (fun j=>(fun w=>bY w ts/\Fi w0 w .u32 (oa j 3) (nb j 3) (nI (cZ (JS X [44])).s)/\True)) (fun j=>w0.heap.size<=nb j 5) (fun _ _ hF hf=>⟨⟨hF.1,hf 3,trivial⟩,hf 5⟩) (cR [[],[2],[]]<|cX (qWJ [1] (fun _ _ w hG hK=>zY g S (JS X [44]) (gQ ts ([zt]) j6 7) (mJ hX [44]) hl w hK (hG.pK [1] tV)))<|jY 1<|cX (o_born (qN (fun j ζ=>(fE ([dB.mk (cZ (JS X [44])).k (cZ (JS X [44])).s (cZ (JS X [44])).w (oa j 3) (nb j 3)]) (ζ.headD 0) (([dB.mk (cZ (JS X [44])).k (cZ (JS X [44])).s (cZ (JS X [44])).w (oa j 3) (nb j 3)]).length+ζ.tail.headD 0))) (fun j ζ=>(oM (kK.r ([dB.mk (cZ (JS X [44])).k (cZ (JS X [44])).s (cZ (JS X [44])).w (oa j 3) (nb j 3)])) (IP zKp) (ζ.tail.headD 0) 59)) (fun j _ _ hG=>BM (K:=kK) (ty:=48) (us:=[dB.mk (cZ (JS X [44])).k (cZ (JS X [44])).s (cZ (JS X [44])).w (oa j 3) (nb j 3)]) underlying48 (kE (sz:=45) (b:=144) (z:=zKp) kr rfl) (src_k1 (p:=(dB.mk (cZ (JS X [44])).k (cZ (JS X [44])).s (cZ (JS X [44])).w (oa j 3) (nb j 3))) underlying48 (hG.kn (g:=nb j 4) (o:=(iJ (vV (cZ (JS X [44])).k.s (cZ (JS X [44])).k.p (cZ (JS X [44])).k.c (cZ (JS X [44])).k.d (((cZ (JS X [44])).k.i:Nat):Int) (((cZ (JS X [44])).k.n:Nat):Int) (gW (nI (cZ (JS X [44])).s) (oa j 3) (nb j 3)) (.bool (cZ (JS X [44])).w)))) 35)) lb lb dC)))<|jE [[],[2]]) (fun j19 ap19_5=>aH (mD (Gt g ts.length j7) [(nb j6 7,(bM (oc j6 7))),(g,(cL #[aU S,vn (qK S (cZ (JS X [44])).l),.bool (!(cZ (JS X [44])).o),gQ ts ([zt]) j6 7] 74)),(nb j7 0,(bM (kJ 2 (o8 (aN L):Int) 0 0 (fE ([dB.mk (cZ (JS X [44])).k (cZ (JS X [44])).s (cZ (JS X [44])).w (oa j19 3) (nb j19 3)]) (nb j19 5) (([dB.mk (cZ (JS X [44])).k (cZ (JS X [44])).s (cZ (JS X [44])).w (oa j19 3) (nb j19 3)]).length+bV j19 5))))),(nb j19 5,(oM (kK.r ([dB.mk (cZ (JS X [44])).k (cZ (JS X [44])).s (cZ (JS X [44])).w (oa j19 3) (nb j19 3)])) (IP zKp) (bV j19 5) 59))] ?_)))))))
    exact mNF (I4 (f2-1,(cZ (JS X [44])).l,!(cZ (JS X [44])).o,[dB.mk (cZ (JS X [44])).k (cZ (JS X [44])).s (cZ (JS X [44])).w (oa j19 3) (nb j19 3)],nb j19 5,(kK.r ([dB.mk (cZ (JS X [44])).k (cZ (JS X [44])).s (cZ (JS X [44])).w (oa j19 3) (nb j19 3)])).toArray++IU (IP zKp) (bV j19 5),([dB.mk (cZ (JS X [44])).k (cZ (JS X [44])).s (cZ (JS X [44])).w (oa j19 3) (nb j19 3)]).length+bV j19 5)) (by show f2-1<f2;have:=hf.elim (fun q=>IQ q) id;omega) (⟨I5 (ckl_f hf hb6),(by have q:=ckl_al ha hb6;simp only [II,IJ,IK];omega),ckl_n hf hr hb6,Dn (mJ hX [44]),oP.A.fresh (K:=kK) (z:=zKp) rfl ([dB.mk (cZ (JS X [44])).k (cZ (JS X [44])).s (cZ (JS X [44])).w (oa j19 3) (nb j19 3)]) (bV j19 5),(fun p hp=>by rw [IV.1 hp];exact ckp_ok _ _ _),ap19_5⟩) (fun w hS=>hS.dP (fun w hF=>⟨hF.1,KjF.one hF.2.1,trivial⟩))
   refine aY f32 9 [0,2,3,61] [] [pt g,pt g,jp g 2,vF,vT,vT,pt g,vF,vF] [(7,(mQ 1 g (cL #[aU S,iK S X,vF,gQ ts ([zt]) j6 7] 74)))] (cR [[],[],[],[1],[],[],[]]<|l7 [1] (gJ g S X false (gQ ts ([zt]) j6 7) [44] hb6 hX hl dC)<|jX 1) (oN (bC (aF (aF (aO (aH (aA (uF [(0,(pt g)),(2,(vn ts.length)),(3,(bG j7 0)),(61,vF)] [(nb j6 7,(bM (oc j6 7))),(g,(cL #[aU S,iK S X,vF,gQ ts ([zt]) j6 7] 74)),(nb j7 0,(bM (qy129 L)))] ?_))))))))
   exact yX J1 (aX.mk 2 (o8 (aN L):Int) 0 0 ([]) none 0,X,false,nb j6 7,oc j6 7,ts++([zt]),bV j6 7) (⟨cz_2 (oA (eY hAe)) (ED hAe) (DJ hb3 hb4).1 (ckl_e hf hr hb6),oS,lI (n:=w0.heap.size) (l:=ts) (ts:=ts) iH vG (IL _),hX,ap6_7,AP dC cdm dC dK⟩) (fun w hS=>(hS.vJ []).dP (fun w hF=>⟨hF.1,bY.zt hF.2.1,hF.2.1,trivial⟩))
  rintro ⟨hf,ha,hr,hX,hA3,hNo,hq3⟩
  refine aC ?_
  rcases jO b with hb7 | hb7
  ·subst hb7
   refine jM f32 9 [0,2,3,61] [] [pt g,pt g,jp g 2,vT,vF,vF,JO,JO,vF] [[],[],[],[1],[],[],[],[],[]] (oN (bC (aF (aF (aO (aH (aA (uF [(0,(pt g)),(2,(vn ts.length)),(3,(bG j7 0)),(61,vF)] [(nb j6 7,(bM (oc j6 7))),(g,(cL #[aU S,iK S X,vT,gQ ts ([zt]) j6 7] 74)),(nb j7 0,(bM (qy174 L q3 N.length κ3))),(q3,(iJ C3))] ?_))))))))
   exact yX J1 (aX.mk 2 (o8 (aN L):Int) 0 0 N (wF q3) κ3,X,true,nb j6 7,oc j6 7,ts++([zt]),bV j6 7) (⟨cz_2 (oA (eY hAe)) (ED hAe) (DJ hb3 hb4).1 (ckl_b hr.symm.symm),oS,lI (n:=w0.heap.size) (l:=ts) (ts:=ts) iH vG (IL _),hX,ap6_7,AP dC cdm dC dK⟩) (fun w hS=>(hS.GH (e:=59) (fr:=(0,0)) 3 hA3 om hNo (fun w hF=>hF.2.1) hq3 []).dP (fun w hF=>⟨hF.1,bY.zt hF.2.1,hF.2.1,trivial⟩))
  subst hb7
  rcases jO (JU X [44]) with hb8 | hb8
  ·refine aY f32 9 [0,2,3,61] [] [pt g,pt g,jp g 2,vF,vT,vT,pt g,vT,vT] [(7,(mQ 1 g (cL #[aU S,iK S (JS X [44]),vF,gQ ts ([zt]) j6 7] 74)))] (cR [[],[],[],[1],[],[],[]]<|l7 [1] (nV g S X false (gQ ts ([zt]) j6 7) [44] hb8 hX hl dC)<|jX 1) (oY (aI (aA (aJ (rDf f32 [0,1,0,4,12,31,63,127] 8 [0,2,3] [1,1,1,1,0] (fun j=>let qa:=cZ (JS X [44]);[bH j7 0 35,vs q3 N.length κ3,pt g,bW (vV qa.k.s qa.k.p qa.k.c qa.k.d (qa.k.i:Int) (qa.k.n:Int) (gW (nI qa.s) (oa j 3) (nb j 3)) (.bool (cZ (JS X [44])).w)),lY j 4 1,gQ N ([dB.mk qa.k qa.s qa.w (oa j 3) (nb j 3)]) j 5,bH j7 0 35,JO]) (fun j=>let qa:=cZ (JS X [44]);[(3,(mQ 1 g (cL #[aU S,iK S qa.l,.bool (!(cZ (JS X [44])).o),gQ ts ([zt]) j6 7] 74))),(4,(fB j 4 (vV qa.k.s qa.k.p qa.k.c qa.k.d (qa.k.i:Int) (qa.k.n:Int) (gW (nI qa.s) (oa j 3) (nb j 3)) (.bool (cZ (JS X [44])).w)) 59)),(5,(jD 3 j 5 (oc j 5) 59)),(7,(jD 2 j7 0 (kJ 2 (o8 (aN L):Int) 0 0 (gQ N ([dB.mk qa.k qa.s qa.w (oa j 3) (nb j 3)]) j 5)) 50))]) (fun j=>[(3,fun w=>Fi w0 w .u32 (oa j 3) (nb j 3) (nI (cZ (JS X [44])).s)),(5,fun w=>(kK.A (oc j 5) (N++([dB.mk (cZ (JS X [44])).k (cZ (JS X [44])).s (cZ (JS X [44])).w (oa j 3) (nb j 3)])) (bV j 5)/\(nb j 5=q3\/w0.heap.size<=nb j 5)))]) (fun j=>(fun w=>bY w ts/\KjF w0 w N/\Fi w0 w .u32 (oa j 3) (nb j 3) (nI (cZ (JS X [44])).s)/\True)) (fun j=>(kK.A (oc j 5) (N++([dB.mk (cZ (JS X [44])).k (cZ (JS X [44])).s (cZ (JS X [44])).w (oa j 3) (nb j 3)])) (bV j 5)/\(nb j 5=q3\/w0.heap.size<=nb j 5))) (fun _ _ hF hf=>⟨⟨hF.1,hF.2.1,hf 3,trivial⟩,hf 5⟩) (cR [[],[2],[]]<|cX (qWJ [1] (fun _ _ w hG hK=>zY g S (JS X [44]) (gQ ts ([zt]) j6 7) (mJ hX [44]) hl w hK (hG.pK [1] tV)))<|jY 1<|cX (qM 3 (fun j _ _ hG hg=>mv_loc (Cc (K:=kK) (ty:=48) (g:=q3) (ts:=N) (us:=[dB.mk (cZ (JS X [44])).k (cZ (JS X [44])).s (cZ (JS X [44])).w (oa j 3) (nb j 3)]) underlying48 (kE (sz:=45) (b:=144) (z:=zKp) kr rfl) hA3 (src_k1 (p:=(dB.mk (cZ (JS X [44])).k (cZ (JS X [44])).s (cZ (JS X [44])).w (oa j 3) (nb j 3))) underlying48 (hG.kn (g:=nb j 4) (o:=(iJ (vV (cZ (JS X [44])).k.s (cZ (JS X [44])).k.p (cZ (JS X [44])).k.c (cZ (JS X [44])).k.d (((cZ (JS X [44])).k.i:Nat):Int) (((cZ (JS X [44])).k.n:Nat):Int) (gW (nI (cZ (JS X [44])).s) (oa j 3) (nb j 3)) (.bool (cZ (JS X [44])).w)))) 36)) oS dC hg) hG.aS.size))<|jE [[],[2]]) (fun j23 ap23_5=>aH (mD (Gt g ts.length j7) [(nb j6 7,(bM (oc j6 7))),(g,(cL #[aU S,vn (qK S (cZ (JS X [44])).l),.bool (!(cZ (JS X [44])).o),gQ ts ([zt]) j6 7] 74)),(nb j7 0,(bM (kJ 2 (o8 (aN L):Int) 0 0 (gQ N ([dB.mk (cZ (JS X [44])).k (cZ (JS X [44])).s (cZ (JS X [44])).w (oa j23 3) (nb j23 3)]) j23 5)))),(nb j23 5,(iJ (oc j23 5)))] ?_)))))))
   exact mNF (I4 (f2-1,(cZ (JS X [44])).l,!(cZ (JS X [44])).o,N++([dB.mk (cZ (JS X [44])).k (cZ (JS X [44])).s (cZ (JS X [44])).w (oa j23 3) (nb j23 3)]),nb j23 5,oc j23 5,bV j23 5)) (by show f2-1<f2;have:=hf.elim (fun q=>IQ q) id;omega) (⟨I5 (ckl_f hf hb8),(by have q:=ckl_al ha hb8;simp only [II,IJ,IK];omega),(by rw [JH];exact ckl_n hf hr hb8),Dn (mJ hX [44]),ap23_5.1,(fun p hp=>(Jc.1 hp).elim (hNo p) (fun e=>by rw [IV.1 e];exact ckp_ok _ _ _)),(ap23_5.2.elim (fun e=>by rw [e];exact hq3) id)⟩) (fun w hS=>hS.dP (fun w hF=>⟨hF.1,KjF.app hF.2.1 (KjF.one hF.2.2.1),trivial⟩))
  refine aY f32 9 [0,2,3,61] [] [pt g,pt g,jp g 2,vF,vT,vT,pt g,vF,vF] [(7,(mQ 1 g (cL #[aU S,iK S X,vF,gQ ts ([zt]) j6 7] 74)))] (cR [[],[],[],[1],[],[],[]]<|l7 [1] (gJ g S X false (gQ ts ([zt]) j6 7) [44] hb8 hX hl dC)<|jX 1) (oN (bC (aF (aF (aO (aH (aA (uF [(0,(pt g)),(2,(vn ts.length)),(3,(bG j7 0)),(61,vF)] [(nb j6 7,(bM (oc j6 7))),(g,(cL #[aU S,iK S X,vF,gQ ts ([zt]) j6 7] 74)),(nb j7 0,(bM (qy174 L q3 N.length κ3))),(q3,(iJ C3))] ?_))))))))
  exact yX J1 (aX.mk 2 (o8 (aN L):Int) 0 0 N (wF q3) κ3,X,false,nb j6 7,oc j6 7,ts++([zt]),bV j6 7) (⟨cz_2 (oA (eY hAe)) (ED hAe) (DJ hb3 hb4).1 (ckl_e hf hr hb8),oS,lI (n:=w0.heap.size) (l:=ts) (ts:=ts) iH vG (IL _),hX,ap6_7,AP dC cdm dC dK⟩) (fun w hS=>(hS.GH (e:=59) (fr:=(0,0)) 3 hA3 om hNo (fun w hF=>hF.2.1) hq3 []).dP (fun w hF=>⟨hF.1,bY.zt hF.2.1,hF.2.1,trivial⟩))
 refine aY f32 3 [0,2,3,45] [] [pt g,vF,vF] (qI g (cL #[aU S,iK S L,vF,gQ ts ([zt]) j6 7] 74)) (jY 1<|l7 [1] (gJ g S L false (gQ ts ([zt]) j6 7) [109,117,108,116,105,40] hb4 hs hl dC)<|jX 1) (oN ?_)
 rcases jO (JU L [97,102,116,101,114,40]) with hb9 | hb9
 ·refine aY f32 3 [0,2,3,69] [] [pt g,vT,vT] (qI g (cL #[aU S,iK S (aN L),vF,gQ ts ([zt]) j6 7] 74)) (jY 1<|l7 [1] (nJ g S L (gQ ts ([zt]) j6 7) [97,102,116,101,114,40] hb9 (kdI_3 hb3 hb4 hb9).2 hs hl dC)<|jX 1) (oY (aY f32 2 [0,2,3] [] [bG j7 0,JO] [(1,(jD 2 j7 0 (kJ 3 0 0 0 vz) 50))] (jE [[],[2]]) (aY f32 4 [0,2,3] [] [pt g,vu (o8 (aN L)),bH j7 0 2,JO] [(1,(mQ 1 g (cL #[aU S,iK S (iU (aN L)),.bool (!jV (aN L)),gQ ts ([zt]) j6 7] 74))),(3,(jD 2 j7 0 (kJ 3 0 (o8 (aN L):Int) 0 vz) 50))] (jY 1<|l7 [1] (wI g S (aN L) false (gQ ts ([zt]) j6 7) (eQ hs) hl)<|jE [[],[2]]) (aY f32 2 [0,2,3] [] [pt g,oH] (qI g (cL #[aU S,iK S (kM (!jV (aN L)) (iU (aN L)) [44]),.bool (kX (!jV (aN L)) (iU (aN L)) [44]),gQ ts ([zt]) j6 7] 74)) (jY 1<|l7 [1] (oI g S (iU (aN L)) (!jV (aN L)) (gQ ts ([zt]) j6 7) [44] (kZ (eQ hs)) hl dC)<|cN) (rSf f32 2 [0,2,3] [] (fun _=>[pt g,oH]) (fun j=>let qa:=dD f (Cu.mk (kM (!jV (aN L)) (iU (aN L)) [44]) (kX (!jV (aN L)) (iU (aN L)) [44]) (A++[zt]));[(1,{ puts:=[(0,nb j 1,(bM (oc j 1))),(1,g,(cL #[aU S,iK S qa.l,.bool (dD f (Cu.mk (kM (!jV (aN L)) (iU (aN L)) [44]) (kX (!jV (aN L)) (iU (aN L)) [44]) (A++[zt]))).b,kF j 1] 74))]})]) (fun j=>[(1,fun w=>(bY w (ot j 1)/\(kT.A (oc j 1) (ot j 1) (bV j 1)/\(ot j 1).map aX.er=(dD f (Cu.mk (kM (!jV (aN L)) (iU (aN L)) [44]) (kX (!jV (aN L)) (iU (aN L)) [44]) (A++[zt]))).ts/\∀ t∈(ot j 1),t∈(ts++([zt]))\/sV w0.heap.size t)))]) (fun j=>(fun w=>bY w ts/\bY w (ot j 1)/\True)) (fun j=>(kT.A (oc j 1) (ot j 1) (bV j 1)/\(ot j 1).map aX.er=(dD f (Cu.mk (kM (!jV (aN L)) (iU (aN L)) [44]) (kX (!jV (aN L)) (iU (aN L)) [44]) (A++[zt]))).ts/\∀ t∈(ot j 1),t∈(ts++([zt]))\/sV w0.heap.size t)) (fun _ _ hF hf=>⟨⟨hF.1,(hf 1).1,trivial⟩,(hf 1).2⟩) (jY 1<|cX (qMW 0 [1] (fun _ τ w hG hK hg hT hTg=>ih g (nb j6 7) S (kM (!jV (aN L)) (iU (aN L)) [44]) (kX (!jV (aN L)) (iU (aN L)) [44]) (ts++([zt])) (bV j6 7) (oc j6 7) (A++[zt]) (lX (kZ (eQ hs)) (!jV (aN L)) [44]) hl (oU (eY hAe)) (oU (eY hAe)) ap6_7 (ED hAe) w (bI.cons hg hK) (hG.pK [0,1] (fun _ hF=>⟨bY.zt hF.1,trivial⟩)) τ hG.lt (inC hTg hT) (hG.iE.mono (fun _ hF=>(bY.zt hF.1))) w0.heap.size hG.aS.size))<|cN) (fun j30 ap30_1=>aH (aA (uF (Gt g ts.length j7) [(nb j30 1,(bM (oc j30 1))),(g,(cL #[aU S,vn (qK S (dD f (Cu.mk (kM (!jV (aN L)) (iU (aN L)) [44]) (kX (!jV (aN L)) (iU (aN L)) [44]) (A++[zt]))).l),.bool (dD f (Cu.mk (kM (!jV (aN L)) (iU (aN L)) [44]) (kX (!jV (aN L)) (iU (aN L)) [44]) (A++[zt]))).b,kF j30 1] 74)),(nb j7 0,(bM (kJ 3 0 (o8 (aN L):Int) 0 vz)))] ?_))))))))
  exact yX J1 (aX.mk 3 0 (o8 (aN L)) 0 ([]) none 0,(dD f (Cu.mk (kM (!jV (aN L)) (iU (aN L)) [44]) (kX (!jV (aN L)) (iU (aN L)) [44]) (A++[zt]))).l,(dD f (Cu.mk (kM (!jV (aN L)) (iU (aN L)) [44]) (kX (!jV (aN L)) (iU (aN L)) [44]) (A++[zt]))).b,nb j30 1,oc j30 1,ot j30 1,bV j30 1) (⟨cz_3 (oA (eY hAe)) rfl (kdI_3 hb3 hb4 hb9).1 (Jj rfl) ap30_1.2.1,(by have q8:=Ag ap30_1.2.1;have:=eY hAe;simp only [II,IJ,IK] at *;omega),lG ap30_1.2.2 (lI (n:=w0.heap.size) (l:=ts) (ts:=ts) iH vG (IL _)) (IL _),rV f (Cu.mk (kM (!jV (aN L)) (iU (aN L)) [44]) (kX (!jV (aN L)) (iU (aN L)) [44]) (A++[zt])) (lX (kZ (eQ hs)) (!jV (aN L)) [44]),ap30_1.1,AP dC dC (Ac _) dK⟩) (fun w hS=>(hS.vJ []).dP (fun w hF=>⟨hF.1,hF.2.2.1,hF.2.1,trivial⟩))
 refine aY f32 3 [0,2,3,69] [] [pt g,vF,vF] (qI g (cL #[aU S,iK S L,vF,gQ ts ([zt]) j6 7] 74)) (jY 1<|l7 [1] (gJ g S L false (gQ ts ([zt]) j6 7) [97,102,116,101,114,40] hb9 hs hl dC)<|jX 1) (oN ?_)
 rcases jO (JU L [111,108,100,101,114,40]) with hb10 | hb10
 ·refine aY f32 3 [0,2,3,80] [] [pt g,vT,vT] (qI g (cL #[aU S,iK S (aN L),vF,gQ ts ([zt]) j6 7] 74)) (jY 1<|l7 [1] (nJ g S L (gQ ts ([zt]) j6 7) [111,108,100,101,114,40] hb10 (kdI_4 hb3 hb4 hb9 hb10).2 hs hl dC)<|jX 1) (oY (aY f32 2 [0,2,3] [] [bG j7 0,JO] [(1,(jD 2 j7 0 (kJ 4 0 0 0 vz) 50))] (jE [[],[2]]) (aY f32 4 [0,2,3] [] [pt g,vu (o8 (aN L)),bH j7 0 2,JO] [(1,(mQ 1 g (cL #[aU S,iK S (iU (aN L)),.bool (!jV (aN L)),gQ ts ([zt]) j6 7] 74))),(3,(jD 2 j7 0 (kJ 4 0 (o8 (aN L):Int) 0 vz) 50))] (jY 1<|l7 [1] (wI g S (aN L) false (gQ ts ([zt]) j6 7) (eQ hs) hl)<|jE [[],[2]]) (aY f32 2 [0,2,3] [] [pt g,oH] (qI g (cL #[aU S,iK S (kM (!jV (aN L)) (iU (aN L)) [44]),.bool (kX (!jV (aN L)) (iU (aN L)) [44]),gQ ts ([zt]) j6 7] 74)) (jY 1<|l7 [1] (oI g S (iU (aN L)) (!jV (aN L)) (gQ ts ([zt]) j6 7) [44] (kZ (eQ hs)) hl dC)<|cN) (rSf f32 2 [0,2,3] [] (fun _=>[pt g,oH]) (fun j=>let qa:=dD f (Cu.mk (kM (!jV (aN L)) (iU (aN L)) [44]) (kX (!jV (aN L)) (iU (aN L)) [44]) (A++[zt]));[(1,{ puts:=[(0,nb j 1,(bM (oc j 1))),(1,g,(cL #[aU S,iK S qa.l,.bool (dD f (Cu.mk (kM (!jV (aN L)) (iU (aN L)) [44]) (kX (!jV (aN L)) (iU (aN L)) [44]) (A++[zt]))).b,kF j 1] 74))]})]) (fun j=>[(1,fun w=>(bY w (ot j 1)/\(kT.A (oc j 1) (ot j 1) (bV j 1)/\(ot j 1).map aX.er=(dD f (Cu.mk (kM (!jV (aN L)) (iU (aN L)) [44]) (kX (!jV (aN L)) (iU (aN L)) [44]) (A++[zt]))).ts/\∀ t∈(ot j 1),t∈(ts++([zt]))\/sV w0.heap.size t)))]) (fun j=>(fun w=>bY w ts/\bY w (ot j 1)/\True)) (fun j=>(kT.A (oc j 1) (ot j 1) (bV j 1)/\(ot j 1).map aX.er=(dD f (Cu.mk (kM (!jV (aN L)) (iU (aN L)) [44]) (kX (!jV (aN L)) (iU (aN L)) [44]) (A++[zt]))).ts/\∀ t∈(ot j 1),t∈(ts++([zt]))\/sV w0.heap.size t)) (fun _ _ hF hf=>⟨⟨hF.1,(hf 1).1,trivial⟩,(hf 1).2⟩) (jY 1<|cX (qMW 0 [1] (fun _ τ w hG hK hg hT hTg=>ih g (nb j6 7) S (kM (!jV (aN L)) (iU (aN L)) [44]) (kX (!jV (aN L)) (iU (aN L)) [44]) (ts++([zt])) (bV j6 7) (oc j6 7) (A++[zt]) (lX (kZ (eQ hs)) (!jV (aN L)) [44]) hl (oU (eY hAe)) (oU (eY hAe)) ap6_7 (ED hAe) w (bI.cons hg hK) (hG.pK [0,1] (fun _ hF=>⟨bY.zt hF.1,trivial⟩)) τ hG.lt (inC hTg hT) (hG.iE.mono (fun _ hF=>(bY.zt hF.1))) w0.heap.size hG.aS.size))<|cN) (fun j36 ap36_1=>aH (aA (uF (Gt g ts.length j7) [(nb j36 1,(bM (oc j36 1))),(g,(cL #[aU S,vn (qK S (dD f (Cu.mk (kM (!jV (aN L)) (iU (aN L)) [44]) (kX (!jV (aN L)) (iU (aN L)) [44]) (A++[zt]))).l),.bool (dD f (Cu.mk (kM (!jV (aN L)) (iU (aN L)) [44]) (kX (!jV (aN L)) (iU (aN L)) [44]) (A++[zt]))).b,kF j36 1] 74)),(nb j7 0,(bM (kJ 4 0 (o8 (aN L):Int) 0 vz)))] ?_))))))))
  exact yX J1 (aX.mk 4 0 (o8 (aN L)) 0 ([]) none 0,(dD f (Cu.mk (kM (!jV (aN L)) (iU (aN L)) [44]) (kX (!jV (aN L)) (iU (aN L)) [44]) (A++[zt]))).l,(dD f (Cu.mk (kM (!jV (aN L)) (iU (aN L)) [44]) (kX (!jV (aN L)) (iU (aN L)) [44]) (A++[zt]))).b,nb j36 1,oc j36 1,ot j36 1,bV j36 1) (⟨cz_3 (oA (eY hAe)) rfl (kdI_4 hb3 hb4 hb9 hb10).1 (I5 rfl) ap36_1.2.1,(by have q8:=Ag ap36_1.2.1;have:=eY hAe;simp only [II,IJ,IK] at *;omega),lG ap36_1.2.2 (lI (n:=w0.heap.size) (l:=ts) (ts:=ts) iH vG (IL _)) (IL _),rV f (Cu.mk (kM (!jV (aN L)) (iU (aN L)) [44]) (kX (!jV (aN L)) (iU (aN L)) [44]) (A++[zt])) (lX (kZ (eQ hs)) (!jV (aN L)) [44]),ap36_1.1,AP dC dC (Ac _) dK⟩) (fun w hS=>(hS.vJ []).dP (fun w hF=>⟨hF.1,hF.2.2.1,hF.2.1,trivial⟩))
 refine aY f32 3 [0,2,3,80] [] [pt g,vF,vF] (qI g (cL #[aU S,iK S L,vF,gQ ts ([zt]) j6 7] 74)) (jY 1<|l7 [1] (gJ g S L false (gQ ts ([zt]) j6 7) [111,108,100,101,114,40] hb10 hs hl dC)<|jX 1) (oN ?_)
 rcases jO (JU L [104,97,115,104,40]) with hb11 | hb11
 ·refine aY f32 3 [0,2,3,91] [] [pt g,vT,vT] (qI g (cL #[aU S,iK S (aN L),vF,gQ ts ([zt]) j6 7] 74)) (jY 1<|l7 [1] (nJ g S L (gQ ts ([zt]) j6 7) [104,97,115,104,40] hb11 (kdI_5 hb3 hb4 hb9 hb10 hb11).2 hs hl dC)<|jX 1) (oY (aY f32 2 [0,2,3] [] [bG j7 0,JO] [(1,(jD 2 j7 0 (kJ 5 0 0 0 vz) 50))] (jE [[],[2]]) (?_)))
  rcases jO (lC 32 (aN L)) with hb12 | hb12
  ·refine sDf f32 [0,1,0,4,15] 5 [0,2,3] [] (fun j=>[bH j7 0 3,CP (hL 0) (rF j7 0 3),pt g,gW (iL 32 (aN L)) (oa j 3) (nb j 3),CG (iL 32 (aN L))]) (fun _=>[(3,(mQ 1 g (cL #[aU S,iK S (lW 32 (aN L)),.bool (!lC 32 (aN L)),gQ ts ([zt]) j6 7] 74))),(4,(jD 2 j7 0 (kJ 5 0 0 (nB ((iL 32 (aN L)).take 32)) vz) 50))]) (fun j=>[(3,fun w=>Fs w0 w (oa j 3) (nb j 3) (iL 32 (aN L)))]) (fun j=>(fun w=>bY w ts/\Fs w0 w (oa j 3) (nb j 3) (iL 32 (aN L))/\True)) (fun _=>True) (fun _ _ hF hf=>⟨⟨hF.1,hf 3,trivial⟩,trivial⟩) (jY 3<|cX (qWB [1] (fun _ _ w hG hK=>CO g S (aN L) false (gQ ts ([zt]) j6 7) 32 (eQ hs) hl dC w hK (hG.pK [1] tV)))<|cX (pR _ 2 (fun j=>do pure (Jk (<- JC #[35,35] 3 #[qy202 j7 0 3 32,gW (iL 32 (aN L)) (oa j 3) (nb j 3)]))) (fun _=>nb j7 0) (fun _=>(bM (kJ 5 0 0 0 vz))) (fun _=>(bM (kJ 5 0 0 (nB ((iL 32 (aN L)).take 32)) vz))) (fun _=>(CG (iL 32 (aN L)))) (fun _=>kr) (fun _=>kr) (fun _=>kr) (fun _=>kr) tV (fun j _ w hG hg=>(by as_aux_lemma=>(rw [<- copy_tm 5 0 0 0 vz (xs:=iL 32 (aN L)) (Jg (Fh hb12).symm)];exact wM underlying35 uT hg (show Fs w0 w (oa j 3) (nb j 3) (iL 32 (aN L)) from (hG.facts 3 rfl).now).1 rfl (by rw [yU];decide)))))<|cN) (fun j40 _=>aY f32 2 [0,2,3] [] [pt g,oH] (qI g (cL #[aU S,iK S (kM (!lC 32 (aN L)) (lW 32 (aN L)) [44]),.bool (kX (!lC 32 (aN L)) (lW 32 (aN L)) [44]),gQ ts ([zt]) j6 7] 74)) (jY 1<|l7 [1] (oI g S (lW 32 (aN L)) (!lC 32 (aN L)) (gQ ts ([zt]) j6 7) [44] (qX (eQ hs) 32) hl dC)<|cN) (uF (Gt g ts.length j7) [(nb j6 7,(bM (oc j6 7))),(g,(cL #[aU S,iK S (kM (!lC 32 (aN L)) (lW 32 (aN L)) [44]),.bool (kX (!lC 32 (aN L)) (lW 32 (aN L)) [44]),gQ ts ([zt]) j6 7] 74)),(nb j7 0,(bM (kJ 5 0 0 (nB ((iL 32 (aN L)).take 32)) vz)))] (rSf f32 2 [0,2,3] [] (fun _=>[pt g,oH]) (fun j=>let qa:=dD f (Cu.mk (kM (!lC 32 (aN L)) (lW 32 (aN L)) [44]) (kX (!lC 32 (aN L)) (lW 32 (aN L)) [44]) (A++[zt]));[(1,{ puts:=[(0,nb j 1,(bM (oc j 1))),(1,g,(cL #[aU S,iK S qa.l,.bool (dD f (Cu.mk (kM (!lC 32 (aN L)) (lW 32 (aN L)) [44]) (kX (!lC 32 (aN L)) (lW 32 (aN L)) [44]) (A++[zt]))).b,kF j 1] 74))]})]) (fun j=>[(1,fun w=>(bY w (ot j 1)/\(kT.A (oc j 1) (ot j 1) (bV j 1)/\(ot j 1).map aX.er=(dD f (Cu.mk (kM (!lC 32 (aN L)) (lW 32 (aN L)) [44]) (kX (!lC 32 (aN L)) (lW 32 (aN L)) [44]) (A++[zt]))).ts/\∀ t∈(ot j 1),t∈(ts++([zt]))\/sV w0.heap.size t)))]) (fun j=>(fun w=>bY w ts/\Fs w0 w (oa j40 3) (nb j40 3) (iL 32 (aN L))/\bY w (ot j 1)/\True)) (fun j=>(kT.A (oc j 1) (ot j 1) (bV j 1)/\(ot j 1).map aX.er=(dD f (Cu.mk (kM (!lC 32 (aN L)) (lW 32 (aN L)) [44]) (kX (!lC 32 (aN L)) (lW 32 (aN L)) [44]) (A++[zt]))).ts/\∀ t∈(ot j 1),t∈(ts++([zt]))\/sV w0.heap.size t)) (fun _ _ hF hf=>⟨⟨hF.1,hF.2.1,(hf 1).1,trivial⟩,(hf 1).2⟩) (jY 1<|cX (qMW 0 [1] (fun _ τ w hG hK hg hT hTg=>ih g (nb j6 7) S (kM (!lC 32 (aN L)) (lW 32 (aN L)) [44]) (kX (!lC 32 (aN L)) (lW 32 (aN L)) [44]) (ts++([zt])) (bV j6 7) (oc j6 7) (A++[zt]) (lX (qX (eQ hs) 32) (!lC 32 (aN L)) [44]) hl (oU (eY hAe)) (oU (eY hAe)) ap6_7 (ED hAe) w (bI.cons hg hK) (hG.pK [0,1] (fun _ hF=>⟨bY.zt hF.1,trivial⟩)) τ hG.lt (inC hTg hT) (hG.iE.mono (fun _ hF=>(bY.zt hF.1))) w0.heap.size hG.aS.size))<|cN) (fun j42 ap42_1=>aH (aA (uF (Gt g ts.length j7) [(nb j42 1,(bM (oc j42 1))),(g,(cL #[aU S,vn (qK S (dD f (Cu.mk (kM (!lC 32 (aN L)) (lW 32 (aN L)) [44]) (kX (!lC 32 (aN L)) (lW 32 (aN L)) [44]) (A++[zt]))).l),.bool (dD f (Cu.mk (kM (!lC 32 (aN L)) (lW 32 (aN L)) [44]) (kX (!lC 32 (aN L)) (lW 32 (aN L)) [44]) (A++[zt]))).b,kF j42 1] 74)),(nb j7 0,(bM (kJ 5 0 0 (nB ((iL 32 (aN L)).take 32)) vz)))] ?_))))))
   exact yX J1 (aX.mk 5 0 0 (nB ((iL 32 (aN L)).take 32)) ([]) none 0,(dD f (Cu.mk (kM (!lC 32 (aN L)) (lW 32 (aN L)) [44]) (kX (!lC 32 (aN L)) (lW 32 (aN L)) [44]) (A++[zt]))).l,(dD f (Cu.mk (kM (!lC 32 (aN L)) (lW 32 (aN L)) [44]) (kX (!lC 32 (aN L)) (lW 32 (aN L)) [44]) (A++[zt]))).b,nb j42 1,oc j42 1,ot j42 1,bV j42 1) (⟨cz_5 (oA (eY hAe)) rfl (kdI_5 hb3 hb4 hb9 hb10 hb11).1 (chH_t hb12) ap42_1.2.1,(by have q8:=Ag ap42_1.2.1;have:=eY hAe;simp only [II,IJ,IK] at *;omega),lG ap42_1.2.2 (lI (n:=w0.heap.size) (l:=ts) (ts:=ts) iH vG (IL _)) (IL _),rV f (Cu.mk (kM (!lC 32 (aN L)) (lW 32 (aN L)) [44]) (kX (!lC 32 (aN L)) (lW 32 (aN L)) [44]) (A++[zt])) (lX (qX (eQ hs) 32) (!lC 32 (aN L)) [44]),ap42_1.1,AP dC dC dC (nB_M (by rw [IX];exact JG (Jg (Fh hb12).symm)))⟩) (fun w hS=>(hS.vJ []).dP (fun w hF=>⟨hF.1,hF.2.2.2.1,hF.2.1,trivial⟩))
  refine sDf f32 [0,1,0,4,15] 5 [0,2,3] [] (fun j=>[bH j7 0 3,CP (hL 0) (rF j7 0 3),pt g,gW (iL 32 (aN L)) (oa j 3) (nb j 3),CG (iL 32 (aN L))]) (fun _=>[(3,(mQ 1 g (cL #[aU S,iK S (lW 32 (aN L)),.bool (!lC 32 (aN L)),gQ ts ([zt]) j6 7] 74))),(4,(jD 2 j7 0 (kJ 5 0 0 0 vz) 50))]) (fun j=>[(3,fun w=>Fs w0 w (oa j 3) (nb j 3) (iL 32 (aN L)))]) (fun j=>(fun w=>bY w ts/\Fs w0 w (oa j 3) (nb j 3) (iL 32 (aN L))/\True)) (fun _=>True) (fun _ _ hF hf=>⟨⟨hF.1,hf 3,trivial⟩,trivial⟩) (jY 3<|cX (qWB [1] (fun _ _ w hG hK=>CO g S (aN L) false (gQ ts ([zt]) j6 7) 32 (eQ hs) hl dC w hK (hG.pK [1] tV)))<|cX (pR _ 2 (fun j=>do pure (Jk (<- JC #[35,35] 3 #[qy202 j7 0 3 32,gW (iL 32 (aN L)) (oa j 3) (nb j 3)]))) (fun _=>nb j7 0) (fun _=>(bM (kJ 5 0 0 0 vz))) (fun _=>(bM (kJ 5 0 0 0 vz))) (fun _=>(CG (iL 32 (aN L)))) (fun _=>kr) (fun _=>kr) (fun _=>kr) (fun _=>kr) tV (fun j _ w hG hg=>(by as_aux_lemma=>(rw [<- He 5 0 0 0 vz (xs:=iL 32 (aN L)) (ch_f hb12).1];exact wM underlying35 uT hg (show Fs w0 w (oa j 3) (nb j 3) (iL 32 (aN L)) from (hG.facts 3 rfl).now).1 rfl (by rw [yU];decide)))))<|cN) (fun j43 _=>aY f32 2 [0,2,3] [] [pt g,oH] (qI g (cL #[aU S,iK S (kM (!lC 32 (aN L)) (lW 32 (aN L)) [44]),.bool (kX (!lC 32 (aN L)) (lW 32 (aN L)) [44]),gQ ts ([zt]) j6 7] 74)) (jY 1<|l7 [1] (oI g S (lW 32 (aN L)) (!lC 32 (aN L)) (gQ ts ([zt]) j6 7) [44] (qX (eQ hs) 32) hl dC)<|cN) (uF (Gt g ts.length j7) [(nb j6 7,(bM (oc j6 7))),(g,(cL #[aU S,iK S (kM (!lC 32 (aN L)) (lW 32 (aN L)) [44]),.bool (kX (!lC 32 (aN L)) (lW 32 (aN L)) [44]),gQ ts ([zt]) j6 7] 74)),(nb j7 0,(bM (kJ 5 0 0 0 vz)))] (rSf f32 2 [0,2,3] [] (fun _=>[pt g,oH]) (fun j=>let qa:=dD f (Cu.mk (kM (!lC 32 (aN L)) (lW 32 (aN L)) [44]) (kX (!lC 32 (aN L)) (lW 32 (aN L)) [44]) (A++[zt]));[(1,{ puts:=[(0,nb j 1,(bM (oc j 1))),(1,g,(cL #[aU S,iK S qa.l,.bool (dD f (Cu.mk (kM (!lC 32 (aN L)) (lW 32 (aN L)) [44]) (kX (!lC 32 (aN L)) (lW 32 (aN L)) [44]) (A++[zt]))).b,kF j 1] 74))]})]) (fun j=>[(1,fun w=>(bY w (ot j 1)/\(kT.A (oc j 1) (ot j 1) (bV j 1)/\(ot j 1).map aX.er=(dD f (Cu.mk (kM (!lC 32 (aN L)) (lW 32 (aN L)) [44]) (kX (!lC 32 (aN L)) (lW 32 (aN L)) [44]) (A++[zt]))).ts/\∀ t∈(ot j 1),t∈(ts++([zt]))\/sV w0.heap.size t)))]) (fun j=>(fun w=>bY w ts/\Fs w0 w (oa j43 3) (nb j43 3) (iL 32 (aN L))/\bY w (ot j 1)/\True)) (fun j=>(kT.A (oc j 1) (ot j 1) (bV j 1)/\(ot j 1).map aX.er=(dD f (Cu.mk (kM (!lC 32 (aN L)) (lW 32 (aN L)) [44]) (kX (!lC 32 (aN L)) (lW 32 (aN L)) [44]) (A++[zt]))).ts/\∀ t∈(ot j 1),t∈(ts++([zt]))\/sV w0.heap.size t)) (fun _ _ hF hf=>⟨⟨hF.1,hF.2.1,(hf 1).1,trivial⟩,(hf 1).2⟩) (jY 1<|cX (qMW 0 [1] (fun _ τ w hG hK hg hT hTg=>ih g (nb j6 7) S (kM (!lC 32 (aN L)) (lW 32 (aN L)) [44]) (kX (!lC 32 (aN L)) (lW 32 (aN L)) [44]) (ts++([zt])) (bV j6 7) (oc j6 7) (A++[zt]) (lX (qX (eQ hs) 32) (!lC 32 (aN L)) [44]) hl (oU (eY hAe)) (oU (eY hAe)) ap6_7 (ED hAe) w (bI.cons hg hK) (hG.pK [0,1] (fun _ hF=>⟨bY.zt hF.1,trivial⟩)) τ hG.lt (inC hTg hT) (hG.iE.mono (fun _ hF=>(bY.zt hF.1))) w0.heap.size hG.aS.size))<|cN) (fun j45 ap45_1=>aH (aA (uF (Gt g ts.length j7) [(nb j45 1,(bM (oc j45 1))),(g,(cL #[aU S,vn (qK S (dD f (Cu.mk (kM (!lC 32 (aN L)) (lW 32 (aN L)) [44]) (kX (!lC 32 (aN L)) (lW 32 (aN L)) [44]) (A++[zt]))).l),.bool (dD f (Cu.mk (kM (!lC 32 (aN L)) (lW 32 (aN L)) [44]) (kX (!lC 32 (aN L)) (lW 32 (aN L)) [44]) (A++[zt]))).b,kF j45 1] 74)),(nb j7 0,(bM (kJ 5 0 0 0 vz)))] ?_))))))
  exact yX J1 (aX.mk 5 0 0 0 ([]) none 0,(dD f (Cu.mk (kM (!lC 32 (aN L)) (lW 32 (aN L)) [44]) (kX (!lC 32 (aN L)) (lW 32 (aN L)) [44]) (A++[zt]))).l,(dD f (Cu.mk (kM (!lC 32 (aN L)) (lW 32 (aN L)) [44]) (kX (!lC 32 (aN L)) (lW 32 (aN L)) [44]) (A++[zt]))).b,nb j45 1,oc j45 1,ot j45 1,bV j45 1) (⟨cz_5 (oA (eY hAe)) rfl (kdI_5 hb3 hb4 hb9 hb10 hb11).1 (chH_f hb12) ap45_1.2.1,(by have q8:=Ag ap45_1.2.1;have:=eY hAe;simp only [II,IJ,IK] at *;omega),lG ap45_1.2.2 (lI (n:=w0.heap.size) (l:=ts) (ts:=ts) iH vG (IL _)) (IL _),rV f (Cu.mk (kM (!lC 32 (aN L)) (lW 32 (aN L)) [44]) (kX (!lC 32 (aN L)) (lW 32 (aN L)) [44]) (A++[zt])) (lX (qX (eQ hs) 32) (!lC 32 (aN L)) [44]),ap45_1.1,AP dC dC dC dK⟩) (fun w hS=>(hS.vJ []).dP (fun w hF=>⟨hF.1,hF.2.2.2.1,hF.2.1,trivial⟩))
 refine aY f32 3 [0,2,3,91] [] [pt g,vF,vF] (qI g (cL #[aU S,iK S L,vF,gQ ts ([zt]) j6 7] 74)) (jY 1<|l7 [1] (gJ g S L false (gQ ts ([zt]) j6 7) [104,97,115,104,40] hb11 hs hl dC)<|jX 1) (oN ?_)
 rcases jO (JU L [101,105,116,104,101,114,40]) with hb13 | hb13
 ·refine aY f32 3 [0,2,3,104] [] [pt g,vT,vT] (qI g (cL #[aU S,iK S (aN L),vF,gQ ts ([zt]) j6 7] 74)) (jY 1<|l7 [1] (nJ g S L (gQ ts ([zt]) j6 7) [101,105,116,104,101,114,40] hb13 (kdI_6 hb3 hb4 hb9 hb10 hb11 hb13).2 hs hl dC)<|jX 1) (oY (aY f32 2 [0,2,3] [] [bG j7 0,JO] [(1,(jD 2 j7 0 (kJ 6 0 0 0 vz) 50))] (jE [[],[2]]) (wW f32 2 [0,2,3] [] (fun _=>[pt g,oH]) (fun j=>let qa:=dD f (Cu.mk (aN L) false (A++[zt]));[(1,{ puts:=[(0,nb j 1,(bM (oc j 1))),(1,g,(cL #[aU S,iK S qa.l,.bool (dD f (Cu.mk (aN L) false (A++[zt]))).b,kF j 1] 74))]})]) (fun j=>[(1,fun w=>(bY w (ot j 1)/\(kT.A (oc j 1) (ot j 1) (bV j 1)/\(ot j 1).map aX.er=(dD f (Cu.mk (aN L) false (A++[zt]))).ts/\∀ t∈(ot j 1),t∈(ts++([zt]))\/sV w0.heap.size t)))]) (fun j=>(fun w=>bY w ts/\bY w (ot j 1)/\True)) (fun j=>(kT.A (oc j 1) (ot j 1) (bV j 1)/\(ot j 1).map aX.er=(dD f (Cu.mk (aN L) false (A++[zt]))).ts/\∀ t∈(ot j 1),t∈(ts++([zt]))\/sV w0.heap.size t)) (fun _ _ hF hf=>⟨⟨hF.1,(hf 1).1,trivial⟩,(hf 1).2⟩) (jY 1<|cX (qMW 0 [1] (fun _ τ w hG hK hg hT hTg=>ih g (nb j6 7) S (aN L) false (ts++([zt])) (bV j6 7) (oc j6 7) (A++[zt]) (eQ hs) hl (oU (eY hAe)) (oU (eY hAe)) ap6_7 (ED hAe) w (bI.cons hg hK) (hG.pK [0,1] (fun _ hF=>⟨bY.zt hF.1,trivial⟩)) τ hG.lt (inC hTg hT) (hG.iE.mono (fun _ hF=>(bY.zt hF.1))) w0.heap.size hG.aS.size))<|cN) (fun j49 ap49_1=>uF (Gt g ts.length j7) [(nb j49 1,(bM (oc j49 1))),(g,(cL #[aU S,vn (qK S (dD f (Cu.mk (aN L) false (A++[zt]))).l),.bool (dD f (Cu.mk (aN L) false (A++[zt]))).b,kF j49 1] 74)),(nb j7 0,(bM (kJ 6 0 0 0 vz)))] (aY f32 2 [0,2,3] [] [pt g,oH] (let qa:=dD f (Cu.mk (aN L) false (A++[zt]));(qI g (cL #[aU S,iK S (kM qa.b qa.l [44]),.bool (kX (dD f (Cu.mk (aN L) false (A++[zt]))).b (dD f (Cu.mk (aN L) false (A++[zt]))).l [44]),kF j49 1] 74))) (jY 1<|l7 [1] (oI g S (dD f (Cu.mk (aN L) false (A++[zt]))).l (dD f (Cu.mk (aN L) false (A++[zt]))).b (kF j49 1) [44] (rV f (Cu.mk (aN L) false (A++[zt])) (eQ hs)) hl dC)<|cN) (rSf f32 2 [0,2,3] [] (fun _=>[pt g,oH]) (fun j=>let qa:=dD f (Cu.mk (aN L) false (A++[zt]));let qb:=dD f (Cu.mk (kM qa.b qa.l [44]) (kX qa.b qa.l [44]) qa.ts);[(1,{ puts:=[(0,nb j 1,(bM (oc j 1))),(1,g,(cL #[aU S,iK S qb.l,.bool (dD f (Cu.mk (kM qa.b qa.l [44]) (kX qa.b qa.l [44]) qa.ts)).b,kF j 1] 74))]})]) (fun j=>[(1,fun w=>(bY w (ot j 1)/\(kT.A (oc j 1) (ot j 1) (bV j 1)/\(ot j 1).map aX.er=(dD f (Cu.mk (kM (dD f (Cu.mk (aN L) false (A++[zt]))).b (dD f (Cu.mk (aN L) false (A++[zt]))).l [44]) (kX (dD f (Cu.mk (aN L) false (A++[zt]))).b (dD f (Cu.mk (aN L) false (A++[zt]))).l [44]) (dD f (Cu.mk (aN L) false (A++[zt]))).ts)).ts/\∀ t∈(ot j 1),t∈(ot j49 1)\/sV w0.heap.size t)))]) (fun j=>(fun w=>bY w ts/\bY w (ot j49 1)/\bY w (ot j 1)/\True)) (fun j=>(kT.A (oc j 1) (ot j 1) (bV j 1)/\(ot j 1).map aX.er=(dD f (Cu.mk (kM (dD f (Cu.mk (aN L) false (A++[zt]))).b (dD f (Cu.mk (aN L) false (A++[zt]))).l [44]) (kX (dD f (Cu.mk (aN L) false (A++[zt]))).b (dD f (Cu.mk (aN L) false (A++[zt]))).l [44]) (dD f (Cu.mk (aN L) false (A++[zt]))).ts)).ts/\∀ t∈(ot j 1),t∈(ot j49 1)\/sV w0.heap.size t)) (fun _ _ hF hf=>⟨⟨hF.1,hF.2.1,(hf 1).1,trivial⟩,(hf 1).2⟩) (jY 1<|cX (qMW 0 [1] (fun _ τ w hG hK hg hT hTg=>ih g (nb j49 1) S (kM (dD f (Cu.mk (aN L) false (A++[zt]))).b (dD f (Cu.mk (aN L) false (A++[zt]))).l [44]) (kX (dD f (Cu.mk (aN L) false (A++[zt]))).b (dD f (Cu.mk (aN L) false (A++[zt]))).l [44]) (ot j49 1) (bV j49 1) (oc j49 1) (dD f (Cu.mk (aN L) false (A++[zt]))).ts (lX (rV f (Cu.mk (aN L) false (A++[zt])) (eQ hs)) (dD f (Cu.mk (aN L) false (A++[zt]))).b [44]) hl (by have q8:=Ag ap49_1.2.1;have:=eY hAe;simp only [II,IJ,IK] at *;omega) (by have q8:=Ag ap49_1.2.1;have:=eY hAe;have:=h9;simp only [II,IJ,IK] at *;omega) ap49_1.1 ap49_1.2.1 w (bI.cons hg hK) (hG.pK [0,1] (fun _ hF=>⟨hF.2.1,trivial⟩)) τ hG.lt (inC hTg hT) (hG.iE.mono (fun _ hF=>hF.2.1)) w0.heap.size hG.aS.size))<|cN) (fun j51 ap51_1=>aH (aA (uF (Gt g ts.length j7) [(nb j51 1,(bM (oc j51 1))),(g,(cL #[aU S,vn (qK S (dD f (Cu.mk (kM (dD f (Cu.mk (aN L) false (A++[zt]))).b (dD f (Cu.mk (aN L) false (A++[zt]))).l [44]) (kX (dD f (Cu.mk (aN L) false (A++[zt]))).b (dD f (Cu.mk (aN L) false (A++[zt]))).l [44]) (dD f (Cu.mk (aN L) false (A++[zt]))).ts)).l),.bool (dD f (Cu.mk (kM (dD f (Cu.mk (aN L) false (A++[zt]))).b (dD f (Cu.mk (aN L) false (A++[zt]))).l [44]) (kX (dD f (Cu.mk (aN L) false (A++[zt]))).b (dD f (Cu.mk (aN L) false (A++[zt]))).l [44]) (dD f (Cu.mk (aN L) false (A++[zt]))).ts)).b,kF j51 1] 74)),(nb j7 0,(bM (kJ 6 0 0 0 vz)))] ?_)))))))))
  exact yX J1 (aX.mk 6 0 0 0 ([]) none 0,(dD f (Cu.mk (kM (dD f (Cu.mk (aN L) false (A++[zt]))).b (dD f (Cu.mk (aN L) false (A++[zt]))).l [44]) (kX (dD f (Cu.mk (aN L) false (A++[zt]))).b (dD f (Cu.mk (aN L) false (A++[zt]))).l [44]) (dD f (Cu.mk (aN L) false (A++[zt]))).ts)).l,(dD f (Cu.mk (kM (dD f (Cu.mk (aN L) false (A++[zt]))).b (dD f (Cu.mk (aN L) false (A++[zt]))).l [44]) (kX (dD f (Cu.mk (aN L) false (A++[zt]))).b (dD f (Cu.mk (aN L) false (A++[zt]))).l [44]) (dD f (Cu.mk (aN L) false (A++[zt]))).ts)).b,nb j51 1,oc j51 1,ot j51 1,bV j51 1) (⟨cz_6 (oA (eY hAe)) rfl (kdI_6 hb3 hb4 hb9 hb10 hb11 hb13).1 rfl ap51_1.2.1,(by have q8:=Ag ap51_1.2.1;have r8:=cu_n f (Cu.mk (aN L) false (A++[zt]));have:=eY hAe;simp only [II,IJ,IK] at *;omega),lG ap51_1.2.2 (lG ap49_1.2.2 (lI (n:=w0.heap.size) (l:=ts) (ts:=ts) iH vG (IL _)) (IL _)) (IL _),rV f (Cu.mk (kM (dD f (Cu.mk (aN L) false (A++[zt]))).b (dD f (Cu.mk (aN L) false (A++[zt]))).l [44]) (kX (dD f (Cu.mk (aN L) false (A++[zt]))).b (dD f (Cu.mk (aN L) false (A++[zt]))).l [44]) (dD f (Cu.mk (aN L) false (A++[zt]))).ts) (lX (rV f (Cu.mk (aN L) false (A++[zt])) (eQ hs)) (dD f (Cu.mk (aN L) false (A++[zt]))).b [44]),ap51_1.1,AP dC dC dC dK⟩) (fun w hS=>(hS.vJ []).dP (fun w hF=>⟨hF.1,hF.2.2.2.1,hF.2.1,trivial⟩))
 refine aY f32 3 [0,2,3,104] [] [pt g,vF,vF] (qI g (cL #[aU S,iK S L,vF,gQ ts ([zt]) j6 7] 74)) (jY 1<|l7 [1] (gJ g S L false (gQ ts ([zt]) j6 7) [101,105,116,104,101,114,40] hb13 hs hl dC)<|jX 1) (oN (lV f32 4 [0,2,3] [] [pt g,pt g,jp g 2,JO] [(3,(mQ 1 g (cL #[aU S,iK S L,vT,gQ ts ([zt]) j6 7] 74)))] (jE [[],[],[],[1]]) (aH (aA (uF (Gt g ts.length j7) [(nb j6 7,(bM (oc j6 7))),(g,(cL #[aU S,iK S L,vT,gQ ts ([zt]) j6 7] 74)),(nb j7 0,(bM qy68))] ?_)))))
 exact yX J1 (aX.mk 0 0 0 0 ([]) none 0,L,true,nb j6 7,oc j6 7,ts++([zt]),bV j6 7) (⟨cz_0 (oA (eY hAe)) (ED hAe) (kdI_0 hb3 hb4 hb9 hb10 hb11 hb13).1,oS,lI (n:=w0.heap.size) (l:=ts) (ts:=ts) iH vG (IL _),hs,ap6_7,AP dC dC dC dK⟩) (fun w hS=>(hS.vJ []).dP (fun w hF=>⟨hF.1,bY.zt hF.2.1,hF.2.1,trivial⟩))
theorem rcterm_all:∀ f,RcC f
 | 0=>fun _ _ _ _ _ ts _ _ _ _ _ h8 h9=>absurd h9 om
 | f+1=>fun g q S L bd ts c C A hs hl h8 h9 hA hAe w0 hK hP T hT hW hY n0 hn=>rcterm1_any f (rcterm_all f) g q S L bd ts c C A hs hl h8 h9 hA hAe w0 hK hP T hT hW hY n0 hn
theorem rctm_any (g:Nat) (S L:LU) (hs:L <:+ S) (hl:S.length<=20000) (w0:JQ) (hK:bI [(g,.cells #[kD (dH S),wR (qK S L:Int),.bool false,DW] 74 (0,0))] w0) (hP:bZ (fun b=>b∈([(g,.cells #[kD (dH S),wR (qK S L:Int),.bool false,DW] 74 (0,0))]:List (Nat × Obj)).map (·.1)) (fun _=>True) w0) (T:Nat->Prop) (hT:∀ b,T b->b<w0.heap.size) (hW:∀ x∈([(g,.cells #[kD (dH S),wR (qK S L:Int),.bool false,DW] 74 (0,0))]:List (Nat × Obj)),T x.1) (n0:Nat) (hn:n0<=w0.heap.size):Calls prog 32 #[pt g] w0 (fun e w'=>∃ r:bT,e=.returned oH/\pG (fun b=>b∈([(g,.cells #[kD (dH S),wR (qK S L:Int),.bool false,DW] 74 (0,0))]:List (Nat × Obj)).map (·.1)) w0 w'/\bI [(g,.cells #[kD (dH S),wR (qK S (dD 9 (Cu.mk L false [])).l:Int),.bool (dD 9 (Cu.mk L false [])).b,aW (some ⟨r.n.headD 0,0,none⟩) r.t.length (r.n.tail.headD 0)] 74 (0,0))] w'/\w0.heap.size<=r.n.headD 0/\w'.heap[r.n.headD 0]? = some (.cells (uO r) 50 (0,0))/\bZ (fun b=>T b\/b=r.n.headD 0) (fun w=>bY w r.t/\(kT.A (uO r) r.t (r.n.tail.headD 0)/\r.t.map aX.er=(dD 9 (Cu.mk L false [])).ts/\(∀ t∈r.t,sV n0 t)/\n0<=r.n.headD 0)) w'):=rcterm0_any 8 (rcterm_all 8) g S L hs hl dC w0 hK hP T hT hW n0 hn
theorem cut_any (S W:LU) (w:JQ):Calls prog 83 #[kD (dH S),kD (dH W)] w (fun ε w'=>ε=.returned (.tuple #[kD (dH (JS S W)),.bool (JU S W)])/\Below w.heap.size w w'):=(cutS (dH S) (dH W) w).mono fun ε w' h=>⟨h.1,by rw [h.2];exact Below.refl _ _⟩
abbrev kR:=fun p0 p1=>(cL #[aU p0,p1] 71:Obj)
theorem rdreat_any (g:Nat) (L:LU) (V:JP) (W:LU) (w0:JQ) (hK:bI [(g,(cL #[kD (dH L),V] 71))] w0) (hP:bZ (fun b=>b∈([(g,(cL #[kD (dH L),V] 71))]:List (Nat × Obj)).map (·.1)) (fun _=>True) w0):Calls prog 55 #[pt g,kD (dH W)] w0 (fun ε w'=>ε=.returned (.bool (JU L W))/\pG (fun b=>b∈([(g,(cL #[kD (dH L),V] 71))]:List (Nat × Obj)).map (·.1)) w0 w'/\bI [(g,(cL #[kD (dH (JS L W)),V] 71))] w'):=by
 refine Calls.nZ (n:=21) (F:=(fun _=>True)) [(g,(kR L V))] func55 rfl rfl rfl (by simp) hK (by simp) hP (jJ f55 1 [0,1,4] [vF] (aY f55 11 [0,4,5,6] [] (let qa:JP:=.bool (JU L W);[pt g,pt g,pt g,aU L,aU W,Bo (JS L W) qa,Bo (JS L W) qa,aU (JS L W),qa,aU (JS L W),qa]) [] (cR EF<|oO (cut_any L W)<|jX 5) (aY f55 5 [4,6] [] [pt g,aU (JS L W),pt g,pt g,JO] [(4,(mQ 0 g (kR (JS L W) V)))] (jE [[],[],[],[],[0]]) (jJ f55 2 [4] [.bool (JU L W),.bool (JU L W)] (aG ?_)))))
 exact mR (v:=(.bool (JU L W))) (fun _ hS=>⟨rfl,hS.aS,hS.dZ [1]⟩)
theorem parse_any (S:LU) (u:Nat) (h:Lib.parseUintB 32 S=.ok u) (hl:S.length<=1000000000) (w:JQ):Calls prog 82 #[kD (dH S),.int .i64 10,.int .i64 32] w (fun ε w'=>ε=.returned (.tuple #[dJ (u:Int),.nilIface])/\Below w.heap.size w w'):=(parseS (dH S) (by show S.length<=_;omega) u h w).mono fun ε w' h=>⟨h.1,by rcases h.2 with e | e;rw [e];exact Below.refl _ _;rw [e];exact Lib.bytesWorld_below _ _ _⟩
abbrev qy195:=fun p0=>(.tuple #[vx p0,.nilIface]:JP)
theorem rdrnumber_any (g:Nat) (L:LU) (V:JP) (u:Nat) (hl:L.length<=1000000000) (hp:Lib.parseUintB 32 (L.take (Ar L))=.ok u) (w0:JQ) (hK:bI [(g,(cL #[kD (dH L),V] 71))] w0) (hP:bZ (fun b=>b∈([(g,(cL #[kD (dH L),V] 71))]:List (Nat × Obj)).map (·.1)) (fun _=>True) w0):Calls prog 54 #[pt g] w0 (fun ε w'=>ε=.returned (.tuple #[vu u,vT])/\pG (fun b=>b∈([(g,(cL #[kD (dH L),V] 71))]:List (Nat × Obj)).map (·.1)) w0 w'/\bI [(g,(cL #[kD (dH (L.drop (Ar L))),V] 71))] w'):=by
 refine Calls.nZ (n:=57) (F:=(fun _=>True)) [(g,(kR L V))] func54 rfl rfl rfl (by simp) hK (by simp) hP (jJ f54 2 [0,2,3] [cO 0,vF] (jJ f54 1 [0,2,3,4] [vi 0] (aC (aJ ?_))))
 refine oL (σ:=Nat) (fun i=>[(0,(pt g)),(2,(cO 0)),(3,vF),(4,(vn i))]) (fun _=>[(g,(kR L V))]) (fun i=>L.length-i)
  (fun i=>(i<=L.length)/\(Ar (L.drop i)+i=Ar L)) 0 (⟨Jf _,rfl⟩) [] ?_
 rintro i ⟨hi,hr⟩
 refine aC ?_
 rcases jO (decide ((i:Int)<(L.length:Int))) with h1 | h1
 ·rcases jO (decide (48<=(gB L i:Int))) with h2 | h2
  ·refine aY f54 25 [0,2,3,4,31] [] (let qa:JP:=.bool (decide ((gB L i:Int)<=57));[vn i,pt g,pt g,pt g,aU L,vn L.length,vT,vT,pt g,pt g,pt g,aU L,vn i,kH L i,vT,vT,vT,pt g,pt g,pt g,aU L,vn i,kH L i,qa,qa]) [] (cR [[],[],[],[],[0],[]]<|eU vT (jP h1)<|cR [[],[],[],[],[0],[]]<|pI (IY 9 (aU L) (vn i)) (kH L i) (nK (S:=L) underlying9 (show (i:Int)=(i:Int) from rfl) (show i<L.length from (oB (yT h1) (yT h2))))<|eU vT (jP h2)<|cR qy236<|pI (IY 9 (aU L) (vn i)) (kH L i) (nK (S:=L) underlying9 (show (i:Int)=(i:Int) from rfl) (show i<L.length from (oB (yT h1) (yT h2))))<|jX 2) (oC (decide ((gB L i:Int)<=57)) (fun h3=>?_) (fun h3=>?_))
   ·rw [h3]
    have:=yT h3
    refine aI (aA (aJ (lV f54 3 [0,2,3,4] [] [vn i,vn (i+1),vn (i+1)] [] (jY 1<|oD (bF i 1 (oB (yT h1) (yT h2)))<|jX 1) (aH ?_))))
    exact mN (i+1) (by show L.length-(i+1)<L.length-i;have:=yT h1;have:=yT h2;omega) (⟨(oB (yT h1) (yT h2)),dgN_next (oB (yT h1) (yT h2)) h2 h3 hr⟩) []
   rw [h3]
   have:=yF h3
   refine bC (aF (aF (aO (aA (aY f54 12 [0,2,3,4,5,6] [] [pt g,pt g,pt g,aU L,vn i,aU (L.take i),qy195 u,qy195 u,vx u,.nilIface,vx u,.nilIface] [] (cR EF<|pI (IW 9 (aU L) none (sJ i) none) (aU (L.take i)) (xI (S:=L) underlying9 (n:=i) rfl (oB (yT h1) (yT h2)))<|oO (parse_any (L.take i) u (by rw [(dgN_eB (oB (yT h1) (yT h2)) h3 hr)];exact hp) (by rw [IX];omega))<|jX 5) (aC (jJ f54 2 [0,2,3,4,5,45] [.nilIface,vF] (oN (aI (aA (aY f54 10 [2,3,5] [] [pt g,pt g,pt g,pt g,aU L,vn i,aU (L.drop i),pt g,pt g,JO] [(9,(mQ 0 g (kR (L.drop i) V)))] (cR [[],[],[],[],[0],[]]<|pI (IW 9 (aU L) (sJ i) none none) (aU (L.drop i)) (Ci (S:=L) underlying9 (n:=i) rfl (oB (yT h1) (yT h2)))<|jE qA) (aY f54 4 [2,3] [] [vx u,vu u,vu u,vT] [] (jY 1<|eU (vu u) (jN (txW (Jz hp)))<|jX 2) (aG ?_)))))))))))))
   exact mR (v:=(.tuple #[vu u,vT])) (fun _ hS=>⟨rfl,hS.aS,(by rw [<- (dgN_eB (oB (yT h1) (yT h2)) h3 hr)];exact hS.dZ [1])⟩)
  refine aY f54 25 [0,2,3,4,31] [] [vn i,pt g,pt g,pt g,aU L,vn L.length,vT,vT,pt g,pt g,pt g,aU L,vn i,kH L i,vF,vF,vF,JO,JO,JO,JO,JO,JO,JO,vF] [] (cR [[],[],[],[],[0],[]]<|eU vT (jP h1)<|cR [[],[],[],[],[0],[]]<|pI (IY 9 (aU L) (vn i)) (kH L i) (nK (S:=L) underlying9 (show (i:Int)=(i:Int) from rfl) (show i<L.length from (oB (yT h1) (yF h2))))<|eU vF (jP h2)<|jX 10) (oN (bC (aF (aF (aO (aA (aY f54 12 [0,2,3,4,5,6] [] [pt g,pt g,pt g,aU L,vn i,aU (L.take i),qy195 u,qy195 u,vx u,.nilIface,vx u,.nilIface] [] (cR EF<|pI (IW 9 (aU L) none (sJ i) none) (aU (L.take i)) (xI (S:=L) underlying9 (n:=i) rfl (oB (yT h1) (yF h2)))<|oO (parse_any (L.take i) u (by rw [(dgN_eA (oB (yT h1) (yF h2)) h2 hr)];exact hp) (by rw [IX];omega))<|jX 5) (aC (jJ f54 2 [0,2,3,4,5,45] [.nilIface,vF] (oN (aI (aA (aY f54 10 [2,3,5] [] [pt g,pt g,pt g,pt g,aU L,vn i,aU (L.drop i),pt g,pt g,JO] [(9,(mQ 0 g (kR (L.drop i) V)))] (cR [[],[],[],[],[0],[]]<|pI (IW 9 (aU L) (sJ i) none none) (aU (L.drop i)) (Ci (S:=L) underlying9 (n:=i) rfl (oB (yT h1) (yF h2)))<|jE qA) (aY f54 4 [2,3] [] [vx u,vu u,vu u,vT] [] (jY 1<|eU (vu u) (jN (txW (Jz hp)))<|jX 2) (aG ?_)))))))))))))))
  exact mR (v:=(.tuple #[vu u,vT])) (fun _ hS=>⟨rfl,hS.aS,(by rw [<- (dgN_eA (oB (yT h1) (yF h2)) h2 hr)];exact hS.dZ [1])⟩)
 refine aY f54 25 [0,2,3,4,31] [] [vn i,pt g,pt g,pt g,aU L,vn L.length,vF,vF,JO,JO,JO,JO,JO,JO,JO,vF,vF,JO,JO,JO,JO,JO,JO,JO,vF] [] (cR [[],[],[],[],[0],[]]<|eU vF (jP h1)<|jX 18) (oN (bC (aF (aF (aO (aA (aY f54 12 [0,2,3,4,5,6] [] [pt g,pt g,pt g,aU L,vn i,aU (L.take i),qy195 u,qy195 u,vx u,.nilIface,vx u,.nilIface] [] (cR EF<|pI (IW 9 (aU L) none (sJ i) none) (aU (L.take i)) (xI (S:=L) underlying9 (n:=i) rfl (oA (yF h1)))<|oO (parse_any (L.take i) u (by rw [(dgN_e0 (oA (yF h1)) hr)];exact hp) (by rw [IX];omega))<|jX 5) (aC (jJ f54 2 [0,2,3,4,5,45] [.nilIface,vF] (oN (aI (aA (aY f54 10 [2,3,5] [] [pt g,pt g,pt g,pt g,aU L,vn i,aU (L.drop i),pt g,pt g,JO] [(9,(mQ 0 g (kR (L.drop i) V)))] (cR [[],[],[],[],[0],[]]<|pI (IW 9 (aU L) (sJ i) none none) (aU (L.drop i)) (Ci (S:=L) underlying9 (n:=i) rfl (oA (yF h1)))<|jE qA) (aY f54 4 [2,3] [] [vx u,vu u,vu u,vT] [] (jY 1<|eU (vu u) (jN (txW (Jz hp)))<|jX 2) (aG ?_)))))))))))))))
 exact mR (v:=(.tuple #[vu u,vT])) (fun _ hS=>⟨rfl,hS.aS,(by rw [<- (dgN_e0 (oA (yF h1)) hr)];exact hS.dZ [1])⟩)
theorem Ho (g:Nat) (L:LU) (V:JP) (n:Nat) (hn:n<=1000) (hL:2*n<=L.length) (w0:JQ) (hK:bI [(g,(cL #[kD (dH L),V] 71))] w0) (hP:bZ (fun b=>b∈([(g,(cL #[kD (dH L),V] 71))]:List (Nat × Obj)).map (·.1)) (fun _=>True) w0):Calls prog 56 #[pt g,vn n] w0 (fun ε w'=>∃ α κ,ε=.returned (.tuple #[gW (BR (L.take (2*n))) α κ,.bool (uhE (L.take (2*n))==0)])/\pG (fun b=>b∈([(g,(cL #[kD (dH L),V] 71))]:List (Nat × Obj)).map (·.1)) w0 w'/\bI [(g,(cL #[kD (dH (L.drop (2*n))),V] 71))] w'/\Fs w0 w' α κ (BR (L.take (2*n)))):=by
 refine Calls.nZ (n:=40) (F:=(fun _=>True)) [(g,(kR L V))] func56 rfl rfl rfl (by simp) hK (by simp) hP (jJ f56 2 [0,1,4,5] [vz,vF] (aC (aY f56 8 [0,1,4,5,15] [] [pt g,pt g,pt g,aU L,vn L.length,vn n,vn (2*n),vF] [] (cR [[],[],[],[0],[],[]]<|DV (2*(n:Int)) (2*n) ((pY om).trans om)<|xU (decide ((L.length:Int)<((2*n:Nat):Int))) false (decide_eq_false om)<|cN) (oN (aI (aA (wW f56 13 [0,1,4,5,6,7] [] (fun r=>let qa:JP:=.slice (oa r 7) (BR (L.take (2*n))).length (nb r 7);let qb:=vi (uhE (L.take (2*n)));[pt g,pt g,pt g,aU L,vn n,vn (2*n),aU (L.take (2*n)),rG qa qb,rG qa qb,qa,qb,qa,qb]) eN (fun r=>[(7,fun w=>Fs w0 w (oa r 7) (nb r 7) (BR (L.take (2*n))))]) (fun r=>(fun w=>Fs w0 w (oa r 7) (nb r 7) (BR (L.take (2*n)))/\True)) (fun _=>True) (fun _ _ _ hf=>⟨⟨hf 7,trivial⟩,trivial⟩) (cR EF<|DV (2*(n:Int)) (2*n) ((pY om).trans om)<|cY (jS (fun _=>IW 9 (aU L) none (sJ (2*n)) none) (fun _=>(aU (L.take (2*n)))) (fun _ w=>xI (S:=L) underlying9 (n:=2*n) rfl hL w))<|qBc (fun _=>unhex_any (L.take (2*n)) _)<|jX 5) (fun r3 _=>aY f56 11 [4,5,6,7] [] [pt g,pt g,pt g,pt g,aU L,vn n,vn (2*n),aU (L.drop (2*n)),pt g,pt g,JO] [(10,(mQ 0 g (kR (L.drop (2*n)) V)))] (cR [[],[],[],[],[0],[]]<|DV (2*(n:Int)) (2*n) ((pY om).trans om)<|pI (IW 9 (aU L) (sJ (2*n)) none none) (aU (L.drop (2*n))) (Ci (S:=L) underlying9 (n:=2*n) rfl hL)<|jE qA) (jJ f56 5 [4,5] (let qa:JP:=.slice (oa r3 7) (BR (L.take (2*n))).length (nb r3 7);let qb:JP:=.bool ((uhE (L.take (2*n)))==0);[qa,vi (uhE (L.take (2*n))),qb,qa,qb]) (aG (mD [(4,(gW (BR (L.take (2*n))) (oa r3 7) (nb r3 7))),(5,(.bool ((uhE (L.take (2*n)))==0)))] [(g,(kR (L.drop (2*n)) V))] ?_)))))))))))
 exact mR (v:=(.tuple #[gW (BR (L.take (2*n))) (oa r3 7) (nb r3 7),.bool ((uhE (L.take (2*n)))==0)])) (fun _ hS=>⟨oa r3 7,nb r3 7,rfl,hS.aS,hS.dZ [1],hS.facts.now.1⟩)
theorem fV (g:Nat) (L:LU) (V:JP) (W:LU) (h:JU L W=true) (w0:JQ) (hK:bI [(g,(.cells #[kD (dH L),V] 71 (0,0)))] w0) (hP:bZ (fun b=>b∈([(g,(.cells #[kD (dH L),V] 71 (0,0)))]:List (Nat × Obj)).map (·.1)) (fun _=>True) w0):Calls prog 55 #[pt g,kD (dH W)] w0 (fun ε w'=>ε=.returned vT/\pG (fun b=>b∈([(g,(.cells #[kD (dH L),V] 71 (0,0)))]:List (Nat × Obj)).map (·.1)) w0 w'/\bI [(g,(.cells #[kD (dH (JS L W)),V] 71 (0,0)))] w'):=by
 have k:=rdreat_any g L V W w0 hK hP
 rw [h] at k;exact k
theorem iC (g:Nat) (L:LU) (V:JP) (W:LU) (h:JU L W=false) (w0:JQ) (hK:bI [(g,(.cells #[kD (dH L),V] 71 (0,0)))] w0) (hP:bZ (fun b=>b∈([(g,(.cells #[kD (dH L),V] 71 (0,0)))]:List (Nat × Obj)).map (·.1)) (fun _=>True) w0):Calls prog 55 #[pt g,kD (dH W)] w0 (fun ε w'=>ε=.returned vF/\pG (fun b=>b∈([(g,(.cells #[kD (dH L),V] 71 (0,0)))]:List (Nat × Obj)).map (·.1)) w0 w'/\bI [(g,(.cells #[kD (dH L),V] 71 (0,0)))] w'):=by
 have k:=rdreat_any g L V W w0 hK hP
 rw [h,trim_no h] at k;exact k
abbrev zJ:=(.tuple #[cO 0,vF]:JP)
abbrev qy107:=fun p0=>(.tuple #[vx (nb p0 6),.iface 172 (.pointer (oa p0 6))]:JP)
theorem rdrnumberF_any (g:Nat) (L:LU) (V:JP) (hl:L.length<=1000000000) (hp:uD L=false) (w0:JQ) (hK:bI [(g,(cL #[kD (dH L),V] 71))] w0) (hP:bZ (fun b=>b∈([(g,(cL #[kD (dH L),V] 71))]:List (Nat × Obj)).map (·.1)) (fun w=>uS w/\True) w0):Calls prog 54 #[pt g] w0 (fun ε w'=>ε=.returned zJ/\pG (fun b=>b∈([(g,(cL #[kD (dH L),V] 71))]:List (Nat × Obj)).map (·.1)) w0 w'/\bI [(g,(cL #[kD (dH L),V] 71))] w'):=by
 refine Calls.nZ (n:=57) (F:=(fun w=>uS w/\True)) [(g,(kR L V))] func54 rfl rfl rfl (by simp) hK (by simp) hP (jJ f54 2 [0,2,3] [cO 0,vF] (jJ f54 1 [0,2,3,4] [vi 0] (aC (aJ ?_))))
 refine oL (σ:=Nat) (fun i=>[(0,(pt g)),(2,(cO 0)),(3,vF),(4,(vn i))]) (fun _=>[(g,(kR L V))]) (fun i=>L.length-i)
  (fun i=>(i<=L.length)/\(Ar (L.drop i)+i=Ar L)) 0 (⟨Jf _,rfl⟩) [] ?_
 rintro i ⟨hi,hr⟩
 refine aC ?_
 rcases jO (decide ((i:Int)<(L.length:Int))) with h1 | h1
 ·rcases jO (decide (48<=(gB L i:Int))) with h2 | h2
  ·refine aY f54 25 [0,2,3,4,31] [] (let qa:JP:=.bool (decide ((gB L i:Int)<=57));[vn i,pt g,pt g,pt g,aU L,vn L.length,vT,vT,pt g,pt g,pt g,aU L,vn i,kH L i,vT,vT,vT,pt g,pt g,pt g,aU L,vn i,kH L i,qa,qa]) [] (cR [[],[],[],[],[0],[]]<|eU vT (jP h1)<|cR [[],[],[],[],[0],[]]<|pI (IY 9 (aU L) (vn i)) (kH L i) (nK (S:=L) underlying9 (show (i:Int)=(i:Int) from rfl) (show i<L.length from (oB (yT h1) (yT h2))))<|eU vT (jP h2)<|cR qy236<|pI (IY 9 (aU L) (vn i)) (kH L i) (nK (S:=L) underlying9 (show (i:Int)=(i:Int) from rfl) (show i<L.length from (oB (yT h1) (yT h2))))<|jX 2) (oC (decide ((gB L i:Int)<=57)) (fun h3=>?_) (fun h3=>?_))
   ·rw [h3]
    have:=yT h3
    refine aI (aA (aJ (lV f54 3 [0,2,3,4] [] [vn i,vn (i+1),vn (i+1)] [] (jY 1<|oD (bF i 1 (oB (yT h1) (yT h2)))<|jX 1) (aH ?_))))
    exact mN (i+1) (by show L.length-(i+1)<L.length-i;have:=yT h1;have:=yT h2;omega) (⟨(oB (yT h1) (yT h2)),dgN_next (oB (yT h1) (yT h2)) h2 h3 hr⟩) []
   rw [h3]
   refine bC (aF (aF (aO (aA (wW f54 12 [0,2,3,4,5,6] [] (fun r=>[pt g,pt g,pt g,aU L,vn i,aU (L.take i),qy107 r,qy107 r,vx (nb r 6),.iface 172 (pX (oa r 6)),vx (nb r 6),.iface 172 (pX (oa r 6))]) eN (fun r=>[(6,fun w=>Fs w0 w (oa r 6) (nb r 6) ([]))]) (fun r=>(fun w=>uS w/\Fs w0 w (oa r 6) (nb r 6) ([])/\True)) (fun _=>True) (fun _ _ hF hf=>⟨⟨hF.1,hf 6,trivial⟩,trivial⟩) (cR EF<|cY (jS (fun _=>IW 9 (aU L) none (sJ i) none) (fun _=>(aU (L.take i))) (fun _ w=>xI (S:=L) underlying9 (n:=i) rfl (by have:=yT h1;have:=yT h2;have:=yF h3;omega) w))<|qBc (fun hG=>Gv (L.take i) (by rw [(dgN_eB (by have:=yT h1;have:=yT h2;have:=yF h3;omega) h3 hr)];exact num_f hp) (by rw [IX];omega) _ hG.fn.1)<|jX 5) (fun r5 _=>aC (aY f54 2 [0,2,3,4,5,45] [] [.iface 172 (pX (oa r5 6)),vT] [] (jY 1<|cB .neq 119 (fun _ w=>neq_ifc underlying119 172 (oa r5 6) w)<|cN) (oY (jJ f54 2 [0,2,3,4,5] [cO 0,vF] (aG (aB ?_)))))))))))
   exact mR (v:=zJ) (fun _ hS=>⟨rfl,hS.aS,hS.dZ [1]⟩)
  refine aY f54 25 [0,2,3,4,31] [] [vn i,pt g,pt g,pt g,aU L,vn L.length,vT,vT,pt g,pt g,pt g,aU L,vn i,kH L i,vF,vF,vF,JO,JO,JO,JO,JO,JO,JO,vF] [] (cR [[],[],[],[],[0],[]]<|eU vT (jP h1)<|cR [[],[],[],[],[0],[]]<|pI (IY 9 (aU L) (vn i)) (kH L i) (nK (S:=L) underlying9 (show (i:Int)=(i:Int) from rfl) (show i<L.length from (oB (yT h1) (yF h2))))<|eU vF (jP h2)<|jX 10) (oN (bC (aF (aF (aO (aA (wW f54 12 [0,2,3,4,5,6] [] (fun r=>[pt g,pt g,pt g,aU L,vn i,aU (L.take i),qy107 r,qy107 r,vx (nb r 6),.iface 172 (pX (oa r 6)),vx (nb r 6),.iface 172 (pX (oa r 6))]) eN (fun r=>[(6,fun w=>Fs w0 w (oa r 6) (nb r 6) ([]))]) (fun r=>(fun w=>uS w/\Fs w0 w (oa r 6) (nb r 6) ([])/\True)) (fun _=>True) (fun _ _ hF hf=>⟨⟨hF.1,hf 6,trivial⟩,trivial⟩) (cR EF<|cY (jS (fun _=>IW 9 (aU L) none (sJ i) none) (fun _=>(aU (L.take i))) (fun _ w=>xI (S:=L) underlying9 (n:=i) rfl (oB (yT h1) (yF h2)) w))<|qBc (fun hG=>Gv (L.take i) (by rw [(dgN_eA (oB (yT h1) (yF h2)) h2 hr)];exact num_f hp) (by rw [IX];omega) _ hG.fn.1)<|jX 5) (fun r9 _=>aC (aY f54 2 [0,2,3,4,5,45] [] [.iface 172 (pX (oa r9 6)),vT] [] (jY 1<|cB .neq 119 (fun _ w=>neq_ifc underlying119 172 (oa r9 6) w)<|cN) (oY (jJ f54 2 [0,2,3,4,5] [cO 0,vF] (aG (aB ?_)))))))))))))
  exact mR (v:=zJ) (fun _ hS=>⟨rfl,hS.aS,hS.dZ [1]⟩)
 refine aY f54 25 [0,2,3,4,31] [] [vn i,pt g,pt g,pt g,aU L,vn L.length,vF,vF,JO,JO,JO,JO,JO,JO,JO,vF,vF,JO,JO,JO,JO,JO,JO,JO,vF] [] (cR [[],[],[],[],[0],[]]<|eU vF (jP h1)<|jX 18) (oN (bC (aF (aF (aO (aA (wW f54 12 [0,2,3,4,5,6] [] (fun r=>[pt g,pt g,pt g,aU L,vn i,aU (L.take i),qy107 r,qy107 r,vx (nb r 6),.iface 172 (pX (oa r 6)),vx (nb r 6),.iface 172 (pX (oa r 6))]) eN (fun r=>[(6,fun w=>Fs w0 w (oa r 6) (nb r 6) ([]))]) (fun r=>(fun w=>uS w/\Fs w0 w (oa r 6) (nb r 6) ([])/\True)) (fun _=>True) (fun _ _ hF hf=>⟨⟨hF.1,hf 6,trivial⟩,trivial⟩) (cR EF<|cY (jS (fun _=>IW 9 (aU L) none (sJ i) none) (fun _=>(aU (L.take i))) (fun _ w=>xI (S:=L) underlying9 (n:=i) rfl (oA (yF h1)) w))<|qBc (fun hG=>Gv (L.take i) (by rw [(dgN_e0 (oA (yF h1)) hr)];exact num_f hp) (by rw [IX];omega) _ hG.fn.1)<|jX 5) (fun r13 _=>aC (aY f54 2 [0,2,3,4,5,45] [] [.iface 172 (pX (oa r13 6)),vT] [] (jY 1<|cB .neq 119 (fun _ w=>neq_ifc underlying119 172 (oa r13 6) w)<|cN) (oY (jJ f54 2 [0,2,3,4,5] [cO 0,vF] (aG (aB ?_)))))))))))))
 exact mR (v:=zJ) (fun _ hS=>⟨rfl,hS.aS,hS.dZ [1]⟩)
theorem xZ (g:Nat) (L:LU) (V:JP) (h:uD L=true) (hl:L.length<=1000000000) (w0:JQ) (hK:bI [(g,(.cells #[kD (dH L),V] 71 (0,0)))] w0) (hP:bZ (fun b=>b∈([(g,(.cells #[kD (dH L),V] 71 (0,0)))]:List (Nat × Obj)).map (·.1)) (fun w=>uS w/\True) w0):Calls prog 54 #[pt g] w0 (fun ε w'=>ε=.returned (.tuple #[cO ((fP L:Nat):Int),.bool true])/\pG (fun b=>b∈([(g,(.cells #[kD (dH L),V] 71 (0,0)))]:List (Nat × Obj)).map (·.1)) w0 w'/\bI [(g,(.cells #[kD (dH (dO L)),V] 71 (0,0)))] w'):=by
 have k:=rdrnumber_any g L V (fP L) hl (num_t h) w0 hK (hP.mono tV)
 rw [<- numL_t h] at k;exact k
theorem xW (g:Nat) (L:LU) (V:JP) (h:uD L=false) (hl:L.length<=1000000000) (w0:JQ) (hK:bI [(g,(.cells #[kD (dH L),V] 71 (0,0)))] w0) (hP:bZ (fun b=>b∈([(g,(.cells #[kD (dH L),V] 71 (0,0)))]:List (Nat × Obj)).map (·.1)) (fun w=>uS w/\True) w0):Calls prog 54 #[pt g] w0 (fun ε w'=>ε=.returned (.tuple #[cO 0,.bool false])/\pG (fun b=>b∈([(g,(.cells #[kD (dH L),V] 71 (0,0)))]:List (Nat × Obj)).map (·.1)) w0 w'/\bI [(g,(.cells #[kD (dH L),V] 71 (0,0)))] w'):=rdrnumberF_any g L V hl h w0 hK hP
theorem rdrbytesF_any (g:Nat) (L:LU) (V:JP) (n:Nat) (hn:n<=1000) (hL: ¬ 2*n<=L.length) (w0:JQ) (hK:bI [(g,(cL #[kD (dH L),V] 71))] w0) (hP:bZ (fun b=>b∈([(g,(cL #[kD (dH L),V] 71))]:List (Nat × Obj)).map (·.1)) (fun _=>True) w0):Calls prog 56 #[pt g,vn n] w0 (fun ε w'=>ε=.returned (.tuple #[vz,vF])/\pG (fun b=>b∈([(g,(cL #[kD (dH L),V] 71))]:List (Nat × Obj)).map (·.1)) w0 w'/\bI [(g,(cL #[kD (dH L),V] 71))] w'):=by
 refine Calls.nZ (n:=40) (F:=(fun _=>True)) [(g,(kR L V))] func56 rfl rfl rfl (by simp) hK (by simp) hP ?_
 have _hV:V=V:=rfl
 refine jJ f56 2 [0,1,4,5] [vz,vF] (aC (aY f56 8 [0,1,4,5,15] [] [pt g,pt g,pt g,aU L,vn L.length,vn n,vn (2*n),vT] [] (cR [[],[],[],[0],[],[]]<|DV (2*(n:Int)) (2*n) ((pY om).trans om)<|xU (decide ((L.length:Int)<((2*n:Nat):Int))) true (decide_eq_true om)<|cN) (oY (jJ f56 2 [0,1,4,5] [vz,vF] (aG (aB ?_))))))
 exact mR (v:=(.tuple #[vz,vF])) (fun _ hS=>⟨rfl,hS.aS,hS.dZ [1]⟩)
theorem rdbyT_any (g:Nat) (L:LU) (V:JP) (n:Nat) (hn:n<=1000) (h:rbO n L=true) (w0:JQ) (hK:bI [(g,(.cells #[kD (dH L),V] 71 (0,0)))] w0) (hP:bZ (fun b=>b∈([(g,(.cells #[kD (dH L),V] 71 (0,0)))]:List (Nat × Obj)).map (·.1)) (fun _=>True) w0):Calls prog 56 #[pt g,wR (n:Int)] w0 (fun ε w'=>∃ α κ,ε=.returned (.tuple #[gW (lF n L) α κ,.bool true])/\pG (fun b=>b∈([(g,(.cells #[kD (dH L),V] 71 (0,0)))]:List (Nat × Obj)).map (·.1)) w0 w'/\bI [(g,(.cells #[kD (dH (wL n L)),V] 71 (0,0)))] w'/\Fs w0 w' α κ (lF n L)):=by
 by_cases h2:2*n<=L.length
 ·obtain ⟨e1, e2, e3⟩ := rb_t h2
  have k:=Ho g L V n hn h2 w0 hK hP
  rw [<- e2,h,<- e1,<- e3] at k;exact k
 ·rw [(rb_f h2).2.1] at h;exact absurd h dC
theorem rdbyF_any (g:Nat) (L:LU) (V:JP) (n:Nat) (hn:n<=1000) (h:rbO n L=false) (w0:JQ) (hK:bI [(g,(.cells #[kD (dH L),V] 71 (0,0)))] w0) (hP:bZ (fun b=>b∈([(g,(.cells #[kD (dH L),V] 71 (0,0)))]:List (Nat × Obj)).map (·.1)) (fun _=>True) w0):Calls prog 56 #[pt g,wR (n:Int)] w0 (fun ε w'=>∃ α κ,ε=.returned (.tuple #[gW (lF n L) α κ,.bool false])/\pG (fun b=>b∈([(g,(.cells #[kD (dH L),V] 71 (0,0)))]:List (Nat × Obj)).map (·.1)) w0 w'/\bI [(g,(.cells #[kD (dH (wL n L)),V] 71 (0,0)))] w'/\Fs w0 w' α κ (lF n L)):=by
 by_cases h2:2*n<=L.length
 ·obtain ⟨e1, e2, e3⟩ := rb_t h2
  have k:=Ho g L V n hn h2 w0 hK hP
  rw [<- e2,h,<- e1,<- e3] at k;exact k
 ·obtain ⟨e1, _, e3⟩ := rb_f h2
  rw [e1,e3]
  exact (rdrbytesF_any g L V n hn h2 w0 hK hP).mono (fun ε w' k=>⟨none,0,k.1,k.2.1,k.2.2,Fs.nil⟩)
end Go.Proofs.YtegagmoldjiaaaaGreatDoor
