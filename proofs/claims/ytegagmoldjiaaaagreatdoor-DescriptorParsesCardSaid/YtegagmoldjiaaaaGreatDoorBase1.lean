/-
  What this statement needs, part 1: the texts of it, one behind the other.
-/
import Derived.Shelf.Small.Wraps
import Derived.Shelf.Pu.ParseUintPublic10
import Derived.Test.YtegagmoldjiaaaaGreatDoorProg
import Derived.WalkKit
import Derived.Lib.Hide
import Derived.Deep.LoopGhost
import Derived.Laws.Bits64b
import Derived.Deep.AppendSrc
import Derived.Laws.IdiomStrings
import Derived.Laws.MakeOwn
import Derived.DataElems
import Derived.Test.YtegagmoldjiaaaaGreatDoorChecked
import Derived.WalkSpells
import Derived.Laws.BitsLemmas
import Derived.IntWalk
import Derived.WalkLawsBesides
import Derived.Handy
import Derived.Shelf.Spec.BitsCarry
import Derived.Lib.Mul64
import Derived.Lib.BitFns
import Derived.Deep.QuietTactic
import Derived.BigQuiet
import Derived.BigRegion
import Derived.Outline
set_option maxRecDepth 100000
set_option linter.all false
namespace Go.Proofs.YtegagmoldjiaaaaGreatDoor
open Go Go.RowKit _root_.Go.Proofs.Tryz
open Go.Lib (trimPrefix hasPrefix)
open Go renaming undef→LV,Value→LW,World→LX,Program→LY,TypeId→LZ,Code→L6,Ending→L8,Exit→L9,IntKind→Mc,FuncId→Md,Oper→Me
open _root_.Bool renaming and_eq_true→II,false_eq_true→Jf,or_eq_true→JE,false_or→KZ
open _root_.List renaming mem_iff_getElem?→IJ,all_eq_true→IP,getElem?_eq_some_iff→IQ,getElem?_eq_getElem→IR,mem_range→IU,mem_of_getElem?→IV,mem_map→IX,replicate→I4,length_append→I7,getElem?_map→I9,pairwise_iff_getElem→Jc,range→Jd,getD_eq_getElem?_getD→Ji,mem_cons_self→Jk,getElem?_take→Jr,getElem?_zip_eq_some→Jt,Sublist→JB,mem_cons_of_mem→JH,map_eq_nil_iff→JM,length→JP,append_assoc→JQ,take_left→JR,length_take→JW,eq_nil_of_length_eq_zero→J5,mem_zipIdx_iff_getElem?→J7,map_congr_left→J9,getElem?_append_left→Kz,cons→KD,mem_append→KJ,map_append→KL,length_map→KN,length_singleton→KQ,map_take→La,map_cons→Lc,foldl_append→Ll,pairwise_map→Lm,getElem?_set→Lp,map_map→Lr,size_toArray→LC
open _root_.Option renaming isSome_iff_exists→IK,map_eq_some_iff→IM,map_some→Ju,some→Jw,getD_some→LD
open Go.Next renaming value→IL
open _root_.Array renaming getD_eq_getD_getElem?→IW,getElem?_eq_none→I5,getElem?_eq_some_iff→Jp,all_eq_true_iff_forall_mem→Jy,getElem?_push→Jz,getElem?_eq_getElem→JL,toList_append→J8,getElem?_eq_none_iff→Kr,getElem?_append_left→Ku,length_toList→KX,ext_getElem?→Le,size_append→Lu
open Go.Sem renaming run_bind→IY,run_pure→Jn,run→JO
open _root_.Nat renaming lt_of_lt_of_le→IZ,le_of_ble_eq_true→Jj,le_trans→JA,div_div_eq_div_mul→JC,lt_trichotomy→JF,div_eq_of_lt→JX,le_refl→JY,pow_le_pow_right→JZ,lt_of_le_of_lt→Kw,add_mul→KC,le_add_right→KF,mod_eq_of_lt→KG,add_zero→KH,min_eq_left→KO,div_le_self→KP,zero_le→KT,mul_le_mul_right→KU,zero_add→Lt,pow_add→LJ,mod_lt→LQ
open Go.Builtin renaming append_→I8,zeroCells→Jb,firstCells→Jl,copy_→Ld
open Go.Result renaming andThen_ok→Ja
open Go.IntKind renaming i64→Je,u64→JI,u8→LP
open _root_.Int renaming eq_ofNat_of_zero_le→Jg,toNat_natCast→JU,pow_pos→J4,mul_lt_mul_of_pos_right→Kq,tdiv_eq_ediv_of_nonneg→Kv,pow_add→LK
open Go.Instr renaming loadAt→Jh,indexAt→Jm,sureAddr→Jq,sliceBounds→JG,sliceBound→KE
open Go.World renaming cell?→Jo
open _root_.Or renaming inl→Js,inr→J6
open Go.Ending renaming returned→Jv
open Go.Addr renaming add_lit→JD,add→KR
open Go.Region renaming binds→JJ,ready→JK,Mode→LG
open Go.IntWalk renaming i64_in→JS
open Go.Value renaming int→JV,agg→KW,bool→Lh
open Go.Exit renaming inBlock→Ko
open Go.RowKit.Below renaming heap_setCell→Kt,refl→LM
open Go.Code renaming region→KA,rounds→LH
open Go.Op renaming equalIn→KI
open Go.ByteArray renaming toList_eq→KY
open _root_.BitVec renaming toNat_ofInt→Lj
open _root_.Prod renaming mk→Ls
variable {p:Prop}
section
open Go Go.Shelf Go.Proofs
abbrev OA := Option Addr
abbrev LU := List UInt8
theorem om (h:p:=by omega):p:=h
theorem dC (h:p:=by decide):p:=h
theorem dK (h:p:=by decide +kernel):p:=h
def lays103_ren:Go.Shelf.Ren:=⟨fun | 103=>83 | 210=>114 | 206=>152 | n=>n,fun | 9=>9 | 4=>4 | 24=>122 | 3=>3 | n=>n,fun | n=>n⟩
theorem lays103:Go.Proofs.Lays.n103 prog lays103_ren:={
 mixed:=by kernel_rfl
 f103:=func83.trans (congrArg some (by kernel_rfl))
 f206:=func152.trans (congrArg some (by kernel_rfl))
 f210:=func114.trans (congrArg some (by kernel_rfl))
 t3:=underlying3
 a3:=isAgg3
 z3:=sizeOf3
 v3:=zeroValue3
 t4:=underlying4
 a4:=isAgg4
 z4:=sizeOf4
 v4:=zeroValue4
 t9:=underlying9
 a9:=isAgg9
 z9:=sizeOf9
 v9:=zeroValue9
 t24:=underlying122
 a24:=isAgg122
 z24:=sizeOf122
 v24:=zeroValue122}
def laysPu14_ren:Go.Shelf.Ren:=⟨fun | 14=>82 | 16=>112 | 17=>113 | 19=>146 | 20=>147 | 21=>148 | 22=>149 | 23=>150 | 24=>151 | 25=>170 | 27=>43 | 26=>171 | 28=>70 | 29=>94 | 30=>95 | 31=>96 | 32=>97 | 33=>98 | 35=>131 | 34=>130 | 36=>132 | 37=>133 | 38=>134 | 39=>165 | 40=>166 | n=>n,fun | 9=>9 | 3=>3 | 22=>52 | 24=>119 | 25=>120 | 4=>4 | 34=>171 | 5=>5 | 36=>87 | 37=>35 | 0=>0 | 39=>172 | 21=>21 | 44=>189 | 47=>193 | 50=>196 | 48=>194 | 2=>2 | 52=>134 | 55=>137 | 59=>163 | 60=>45 | 20=>20 | 61=>164 | 65=>46 | 66=>113 | 67=>199 | n=>n,fun | 0=>3 | 1=>4 | 2=>2 | 3=>5 | 4=>6 | n=>n⟩
theorem laysPu14:Go.Proofs.LaysPu.n14 prog laysPu14_ren:={
 mixed:=by kernel_rfl
 f14:=func82.trans (congrArg some (by kernel_rfl))
 f16:=func112.trans (congrArg some (by kernel_rfl))
 f17:=func113.trans (congrArg some (by kernel_rfl))
 f19:=func146.trans (congrArg some (by kernel_rfl))
 f20:=func147.trans (congrArg some (by kernel_rfl))
 f21:=func148.trans (congrArg some (by kernel_rfl))
 f22:=func149.trans (congrArg some (by kernel_rfl))
 f23:=func150.trans (congrArg some (by kernel_rfl))
 f24:=func151.trans (congrArg some (by kernel_rfl))
 f25:=func170.trans (congrArg some (by kernel_rfl))
 f26:=func171.trans (congrArg some (by kernel_rfl))
 f27:=func43.trans (congrArg some (by kernel_rfl))
 f28:=func70.trans (congrArg some (by kernel_rfl))
 f29:=func94.trans (congrArg some (by kernel_rfl))
 f30:=func95.trans (congrArg some (by kernel_rfl))
 f31:=func96.trans (congrArg some (by kernel_rfl))
 f32:=func97.trans (congrArg some (by kernel_rfl))
 f33:=func98.trans (congrArg some (by kernel_rfl))
 f34:=func130.trans (congrArg some (by kernel_rfl))
 f35:=func131.trans (congrArg some (by kernel_rfl))
 f36:=func132.trans (congrArg some (by kernel_rfl))
 f37:=func133.trans (congrArg some (by kernel_rfl))
 f38:=func134.trans (congrArg some (by kernel_rfl))
 f39:=func165.trans (congrArg some (by kernel_rfl))
 f40:=func166.trans (congrArg some (by kernel_rfl))
 t0:=underlying0
 a0:=isAgg0
 z0:=sizeOf0
 v0:=zeroValue0
 i0:=by kernel_rfl
 t2:=underlying2
 a2:=isAgg2
 z2:=sizeOf2
 v2:=zeroValue2
 i2:=by kernel_rfl
 t3:=underlying3
 a3:=isAgg3
 z3:=sizeOf3
 v3:=zeroValue3
 i3:=by kernel_rfl
 t4:=underlying4
 a4:=isAgg4
 z4:=sizeOf4
 v4:=zeroValue4
 i4:=by kernel_rfl
 t5:=underlying5
 a5:=isAgg5
 z5:=sizeOf5
 v5:=zeroValue5
 i5:=by kernel_rfl
 t9:=underlying9
 a9:=isAgg9
 z9:=sizeOf9
 v9:=zeroValue9
 i9:=by kernel_rfl
 t20:=underlying20
 a20:=isAgg20
 z20:=sizeOf20
 v20:=zeroValue20
 i20:=by kernel_rfl
 t21:=underlying21
 a21:=isAgg21
 z21:=sizeOf21
 v21:=zeroValue21
 i21:=by kernel_rfl
 t22:=underlying52
 a22:=isAgg52
 z22:=sizeOf52
 v22:=zeroValue52
 i22:=by kernel_rfl
 t24:=underlying119
 a24:=isAgg119
 z24:=sizeOf119
 v24:=zeroValue119
 i24:=by kernel_rfl
 t25:=underlying120
 a25:=isAgg120
 z25:=sizeOf120
 v25:=zeroValue120
 i25:=by kernel_rfl
 t34:=underlying171
 a34:=isAgg171
 z34:=sizeOf171
 v34:=zeroValue171
 i34:=by kernel_rfl
 c34:=by kernel_rfl
 t36:=underlying87
 a36:=isAgg87
 z36:=sizeOf87
 v36:=zeroValue87
 i36:=by kernel_rfl
 t37:=underlying35
 a37:=isAgg35
 z37:=sizeOf35
 v37:=zeroValue35
 i37:=by kernel_rfl
 t39:=underlying172
 a39:=isAgg172
 z39:=sizeOf172
 v39:=zeroValue172
 i39:=by kernel_rfl
 t44:=underlying189
 a44:=isAgg189
 z44:=sizeOf189
 v44:=zeroValue189
 i44:=by kernel_rfl
 t47:=underlying193
 a47:=isAgg193
 z47:=sizeOf193
 v47:=zeroValue193
 i47:=by kernel_rfl
 t48:=underlying194
 a48:=isAgg194
 z48:=sizeOf194
 v48:=zeroValue194
 i48:=by kernel_rfl
 t50:=underlying196
 a50:=isAgg196
 z50:=sizeOf196
 v50:=zeroValue196
 i50:=by kernel_rfl
 t52:=underlying134
 a52:=isAgg134
 z52:=sizeOf134
 v52:=zeroValue134
 i52:=by kernel_rfl
 t55:=underlying137
 a55:=isAgg137
 z55:=sizeOf137
 v55:=zeroValue137
 i55:=by kernel_rfl
 t59:=underlying163
 a59:=isAgg163
 z59:=sizeOf163
 v59:=zeroValue163
 i59:=by kernel_rfl
 t60:=underlying45
 a60:=isAgg45
 z60:=sizeOf45
 v60:=zeroValue45
 i60:=by kernel_rfl
 t61:=underlying164
 a61:=isAgg164
 z61:=sizeOf164
 t65:=underlying46
 a65:=isAgg46
 z65:=sizeOf46
 v65:=zeroValue46
 i65:=by kernel_rfl
 t66:=underlying113
 a66:=isAgg113
 z66:=sizeOf113
 v66:=zeroValue113
 i66:=by kernel_rfl
 t67:=underlying199
 a67:=isAgg199
 z67:=sizeOf199
 v67:=zeroValue199
 i67:=by kernel_rfl
 g0:=by kernel_rfl
 m0:=by kernel_rfl
 g1:=by kernel_rfl
 m1:=by kernel_rfl
 g2:=by kernel_rfl
 m2:=by kernel_rfl
 g3:=by kernel_rfl
 m3:=by kernel_rfl
 g4:=by kernel_rfl
 m4:=by kernel_rfl}
open Go.RowKit
theorem cutS (s p:ByteArray) (w:LX):Calls prog 83 #[.string s,.string p] w fun e w'=>e=.returned (.tuple #[.string ⟨(trimPrefix s.data.toList p.data.toList).toArray⟩,.bool (hasPrefix s.data.toList p.data.toList)])/\w'=w:=Any.strings_CutPrefix lays103 s p w
theorem parseS (s:ByteArray) (hmax:s.size<=9223372036854775806) (u:Nat) (h:Lib.parseUintB 32 s.data.toList=.ok u) (w:LX) :
 Calls prog 82 #[.string s,.int .i64 10,.int .i64 32] w fun e w'=>e=.returned (.tuple #[.int .u64 u,.nilIface])/\(w'=w\/w'=Lib.bytesWorld w 5 s):=Any.strconv_ParseUint_10_at32_ok laysPu14 s hmax u h w
end
structure Ky where
 s:Nat
 p:Nat
 c:Nat
 d:Int
 i:Nat
 n:Nat
structure dB where
 k:Ky
 ps:List Nat
 wd:Bool
 pa:OA
 pc:Nat
structure aX where
 kd:Int
 m:Int
 nu:Nat
 h:Nat
 ks:List dB
 ka:OA
 kc:Nat
structure ScA where
 a:OA
 c:Nat
 b:LU
instance instInhabitedScA:Inhabited ScA:=⟨⟨none,0,[]⟩⟩
instance instInhabitedKpA:Inhabited dB:=⟨⟨⟨0,0,0,0,0,0⟩,[],false,none,0⟩⟩
instance instInhabitedTmA:Inhabited aX:=⟨⟨0,0,0,0,[],none,0⟩⟩
variable {T:Nat->Prop} {w w':LX}
section
structure bT where
 n:List Nat:=[]
 o:List Obj:=[]
 a:OA:=none
 t:List aX:=[]
 s:List ScA:=[]
 b:OA:=none
 d:OA:=none
structure qJ where
 news:List (Nat × Obj):=[]
 puts:List (Nat × Nat × Obj):=[]
def bZ (T:Nat->Prop) (F:LX->Prop) (w:LX):Prop :=
 ∃ S:Nat->Prop,(∀ b,S b->b<w.heap.size/\¬ T b)/\∀ w',(∀ b,S b->w'.heap[b]? = w.heap[b]?)->F w'
theorem bZ.now {F:LX->Prop} (h:bZ T F w):F w:=by
 obtain ⟨S,_,h2⟩:=h;exact h2 w (fun _ _=>rfl)
structure pG (X:Nat->Prop) (w w':LX):Prop where
 os:w'.os=w.os
 tape:w'.tape=w.tape
 output:w'.output=w.output
 size:w.heap.size<=w'.heap.size
 block:∀ k,k<w.heap.size->¬ X k->w'.heap[k]? = w.heap[k]?
theorem pG.refl (X:Nat->Prop) (w:LX):pG X w w:=⟨rfl,rfl,rfl,JY _,fun _ _ _=>rfl⟩
theorem pG.vU {X:Nat->Prop} (h:Below w.heap.size w w'):pG X w w':=⟨h.os,h.tape,h.output,h.size,fun k hk _=>h.block k hk⟩
theorem pG.trans {X:Nat->Prop} {a b c:LX} (h:pG X a b) (k:pG X b c):pG X a c :=
 ⟨k.os.trans h.os,k.tape.trans h.tape,k.output.trans h.output,JA h.size k.size,fun i hi hx=>(k.block i (IZ hi h.size) hx).trans (h.block i hi hx)⟩
structure nN where
 w:LX
 ws:List Nat
def nN.ok (B:nN) (b:Nat):Prop:=B.w.heap.size<=b\/b∈B.ws
abbrev nN.Since (B:nN) (w:LX):Prop:=pG (fun b=>b∈B.ws) B.w w
theorem bZ.dU {T' X:Nat->Prop} {F:LX->Prop} (h:bZ T F w) (hu:pG X w w') (hX:∀ b,X b->T b) (hT:∀ b,T' b->T b\/w.heap.size<=b):bZ T' F w':=by
 obtain ⟨S,h1,h2⟩:=h
 refine ⟨S,fun b hb=>⟨IZ (h1 b hb).1 hu.size,fun hT'=>?_⟩,fun w'' hw=>h2 w'' (fun b hb=>?_)⟩
 ·rcases hT b hT' with h3 | h3
  ·exact (h1 b hb).2 h3
  ·exact absurd (h1 b hb).1 om
 ·rw [hw b hb];exact hu.block b (h1 b hb).1 (fun hx=>(h1 b hb).2 (hX b hx))
def opv (P : LY) (s : Sem Next) (w : LX) (K : LW -> LX -> Prop) : Prop :=
 match s.run P w with
 | .ok (.value v) w'=>K v w'
 | .ok .skip w'=>K LV w'
 | .ok (.enter f args) w' => Calls P f args w' fun e w'' => match e with
   | .returned v=>K v w''
   | _=>False
 | _=>False
theorem wp_of_opv {P:LY} {o:Me} {a:Act} {K:LW->LX->Prop} {N:Act->LX->Prop} {Q:L9->Act->LX->Prop}
 (h:opv P (execOp a.eval o) w K) (hK:∀ v w',K v w'->N (a.put o.dst v) w'):o.wp P a w N Q:=by
 unfold opv at h
 unfold Oper.wp
 generalize (execOp a.eval o).run P w=r at h
 cases r with
 | ok n w' =>
   cases n<;>simp at h ⊢
   case value v=>exact hK _ _ h
   case skip=>exact hK _ _ h
   case enter f args =>
    refine Calls.mono h fun e w'' he=>?_
    cases e with
    | returned v=>exact hK _ _ he
    | panicked c=>exact he.elim
    | outgrown=>exact he.elim
 | halt x w'=>exact h.elim
def dep (D:List Nat) (i j:Nat):Bool:=(D.getD i 0).testBit j
def edgesOf (ops:Array Me) (i:Nat):List Nat:=((ops[i]?).map fun o=>((o.after.toList.filter (JJ .any)).map (·.on))).getD []
def DOk (ops:Array Me) (D:List Nat):Bool :=
 (Jd ops.size).all fun i=>decide (D.getD i 0<2^i)&&(Jd i).all fun j=> !dep D i j||((edgesOf ops i).any fun e=>e==j||dep D e j)
def DSeq (n:Nat) (D:List Nat):Bool:=(Jd n).all fun i=>D.getD i 0==2^i-1
def vH (ops:Array Me) (i:Nat):Option Nat:=(ops[i]?).bind (·.dst)
def DZ (ops:Array Me) (n:Nat):Bool :=
 (Jd ops.size).all fun i=>((vH ops i).map fun t=>decide (t<n)).getD true&&(Jd i).all fun j=>(vH ops i).isNone||vH ops i != vH ops j
def Dq (ops:Array Me) (t:Nat):Option Nat:=(Jd ops.size).find? fun i=>vH ops i==some t
section
variable (P:LY) (ops:Array Me) (D:List Nat) (l:List (Nat × LW)) (w0:nN) (h:List (Nat × Obj)) (F0:LX→Prop)
variable (vals:(Nat→bT)→Nat→LW) (effs:(Nat→bT)→Nat→qJ) (fact:(Nat→bT)→Nat→LX→Prop)
structure Fr (n:Nat) (l:List (Nat × LW)) (A:Act):Prop where
 defers:A.defers=[]
 size:A.tmps.size=n
 slot:∀ t v,l.lookup t=some v->A.tmps[t]? = some v
def lookAt (V:Nat->LW) (i t:Nat):LW :=
 match Dq ops t with
 | none=>(l.lookup t).getD LV
 | some j=>if dep D i j then V j else (l.lookup t).getD LV
def lookOk (i t:Nat):Bool :=
 match Dq ops t with
 | none=>(l.lookup t).isSome
 | some j=>dep D i j||((decide (j=i)||dep D j i)&&(l.lookup t).isSome)
def eX (V:Nat->LW) (i:Nat):Operand->LW
 | .tmp t=>lookAt ops D l V i t
 | .const v=>v
 | .global g=>.pointer (some ⟨g,0,none⟩)
 | .func f=>.func (.func f) #[] #[]
def opLooksOk (i:Nat) (o:Me):Bool :=
 (o.op.operands.all fun x=>match x with | .tmp t=>lookOk ops D l i t | _=>true)&&(match o.op with | .select _ _=>false | _=>true) &&
 (match o.guard with | none=>true | some (j,_)=>dep D i j&&(vH ops j).isSome)
def Fq:Bool:=(Jd ops.size).all fun i=>((ops[i]?).map (opLooksOk ops D l i)).getD true
def nD (V:Nat->LW) (o:Me):Bool :=
 match o.guard with
 | none=>true
 | some (j,b)=>match V j with | .bool c=>c==b | _=>false
def AY (E:Nat->qJ) (n:Nat):Option (Nat × Obj):=if n<h.length then h[n]? else (E ((n-h.length) / 8)).news[(n-h.length)%8]?
def yZ (E:Nat->qJ) (m:Nat) (L:Nat->Bool) (n:Nat) (x:Nat × Obj):Nat × Obj :=
 (Jd m).foldl (fun c j=>if L j then ((E j).puts.lookup n).getD c else c) x
def wU (L:Nat->Bool) (n:Nat):Bool:=decide (n<h.length)||L ((n-h.length) / 8)
def okN (E:Nat->qJ) (i n:Nat):Bool :=
 wU h (dep D i) n&&(Jd ops.size).all fun j=>((E j).puts.lookup n).isNone||dep D i j||dep D j i||decide (j=i)
def Tof (E:Nat->qJ) (L:Nat->Bool):Nat->Prop:=fun b=>∃ n x,wU h L n=true/\AY h E n=some x/\b=(yZ E ops.size L n x).1
def dU (ρ:Nat->bT) (i:Nat) (r:bT):Nat->bT:=fun j=>if j=i then r else ρ j
def Bi (i : Nat) (ρ : Nat -> bT) (T : Nat -> Prop) (w : LX) (v : LW) (w' : LX) : Prop :=
 ∃ r : bT, v = vals (dU ρ i r) i /\
   pG (fun b=>∃ n y x,(n,y)∈(effs (dU ρ i r) i).puts/\AY h (effs ρ) n=some x/\b=(yZ (effs ρ) ops.size (dep D i) n x).1) w w' /\
   (∀ n y,(n,y)∈(effs (dU ρ i r) i).puts->okN ops D h (effs ρ) i n=true/\∃ x,AY h (effs ρ) n=some x/\w'.heap[(((effs (dU ρ i r) i).puts.lookup n).getD y).1]? = some (((effs (dU ρ i r) i).puts.lookup n).getD y).2 /\
    ((((effs (dU ρ i r) i).puts.lookup n).getD y).1=(yZ (effs ρ) ops.size (dep D i) n x).1\/w.heap.size<=(((effs (dU ρ i r) i).puts.lookup n).getD y).1/\(∀ n' y',(n',y')∈(effs (dU ρ i r) i).puts->n'=n\/y'.1<w.heap.size)/\(effs (dU ρ i r) i).news=[])) /\
   (∀ (k b:Nat) (o:Obj),(effs (dU ρ i r) i).news[k]? = some (b,o)->w.heap.size<=b/\w'.heap[b]? = some o) /\
   ((effs (dU ρ i r) i).news.map (·.1)).Nodup /\
   bZ (fun b=>T b\/b∈(effs (dU ρ i r) i).news.map (·.1)\/b∈(effs (dU ρ i r) i).puts.map (·.2.1)) (fact (dU ρ i r) i) w'
structure iM (i:Nat) (ρ:Nat->bT) (T:Nat->Prop) (w:LX):Prop where
 lt:∀ b,T b->b<w.heap.size
 aS:w0.Since w
 block:∀ n x,AY h (effs ρ) n=some x->okN ops D h (effs ρ) i n=true->w.heap[(yZ (effs ρ) ops.size (dep D i) n x).1]? = some (yZ (effs ρ) ops.size (dep D i) n x).2/\T (yZ (effs ρ) ops.size (dep D i) n x).1/\w0.ok (yZ (effs ρ) ops.size (dep D i) n x).1
 ne:∀ n n' x x',n≠n'->AY h (effs ρ) n=some x->AY h (effs ρ) n'=some x'->okN ops D h (effs ρ) i n=true->okN ops D h (effs ρ) i n'=true->(yZ (effs ρ) ops.size (dep D i) n x).1≠(yZ (effs ρ) ops.size (dep D i) n' x').1
 iE:bZ T F0 w
 facts:∀ j,dep D i j=true->bZ T (fact ρ j) w
def mW (i:Nat):Prop:=∀ o,ops[i]? = some o->∀ ρ T w,iM ops D w0 h F0 effs fact i ρ T w ->
 if nD (vals ρ) o then opv P (execOp (eX ops D l (vals ρ) i) o) w (Bi ops D h vals effs fact i ρ T w) else Bi ops D h vals effs fact i ρ T w LV w
def Loc (i:Nat):Prop:=∀ ρ ρ':Nat->bT,(∀ j,j=i\/dep D i j=true->ρ j=ρ' j)->vals ρ i=vals ρ' i/\effs ρ i=effs ρ' i/\fact ρ i=fact ρ' i
structure Gf (a:Act) (L:Nat->Bool) (A:Act) (w:LX) (ρ:Nat->bT):Prop where
 defers:A.defers=a.defers
 len:A.tmps.size=a.tmps.size
 lsz:∀ i,L i=true->i<ops.size
 done:∀ i t,vH ops i=some t->L i=true->A.tmps[t]? = some (vals ρ i)
 kept:∀ t,(∀ i,i<ops.size->vH ops i=some t->L i=false)->A.tmps[t]? = a.tmps[t]?
 closed:∀ i j,L i=true->dep D i j=true->L j=true
 aS:w0.Since w
 live:∀ n x,AY h (effs ρ) n=some x->wU h L n=true->w0.ok (yZ (effs ρ) ops.size L n x).1/\w.heap[(yZ (effs ρ) ops.size L n x).1]? = some (yZ (effs ρ) ops.size L n x).2
 inj:∀ n n' x x',n≠n'->AY h (effs ρ) n=some x->AY h (effs ρ) n'=some x'->wU h L n=true->wU h L n'=true->(yZ (effs ρ) ops.size L n x).1≠(yZ (effs ρ) ops.size L n' x').1
 iE:bZ (Tof ops h (effs ρ) L) F0 w
 facts:∀ i,L i=true->bZ (Tof ops h (effs ρ) L) (fact ρ i) w
 putsOk:∀ i n y,L i=true->(n,y)∈(effs ρ i).puts->wU h L n=true
end
end
variable {α:Type} {n m i j:Nat} {L:Nat->Bool} {ρ:Nat->bT}
section
theorem Am {l:List (Nat × α)} (h:l.lookup n=none):∀ o,(n,o) ∉ l:=by grind
theorem mZ {l:List (Nat × α)} {o:α} (h:l.lookup n=some o):(n,o)∈l:=by
 induction l with
 | nil=>simp at h
 | cons x l ih =>
   obtain ⟨k,v⟩:=x
   rw [List.lookup_cons] at h
   by_cases hk:(n==k)=true
   ·rw [hk] at h
    have e:n=k:=by grind
    simp at h
    rw [e,h];exact Jk
   ·have hk' : (n == k) = false := by simpa using hk
    rw [hk'] at h
    exact JH _ (ih h)
theorem xM {l:List (Nat × LW)} {o:LW} (h:l.lookup n=some o):(n,o)∈l:=mZ h
theorem fold_congr {l:List Nat} {f g:α->Nat->α} (h:∀ c j,j∈l->f c j=g c j):∀ c,l.foldl f c=l.foldl g c:=by
 induction l with
 | nil=>intro c;rfl
 | cons x l ih =>
   intro c
   simp
   rw [h c x Jk]
   exact ih (fun c j hj=>h c j (JH _ hj)) _
theorem fold_id {l:List Nat} {f:α->Nat->α} (h:∀ c j,j∈l->f c j=c):∀ c,l.foldl f c=c:=by
 induction l with
 | nil=>intro c;rfl
 | cons x l ih =>
   intro c
   simp
   rw [h c x Jk]
   exact ih (fun c j hj=>h c j (JH _ hj)) _
theorem cur_congr {E E':Nat->qJ} {L':Nat->Bool} {o:Nat × Obj}
 (hh:∀ j,j<m->(if L j then ((E j).puts.lookup n) else none)=(if L' j then ((E' j).puts.lookup n) else none)):yZ E m L n o=yZ E' m L' n o:=by
 apply fold_congr
 intro c j hj
 have:=hh j (IU.1 hj)
 by_cases h1:L j=true<;>by_cases h2:L' j=true<;>simp only [h1,h2,if_true,if_false,Jf] at this ⊢
 ·rw [this]
 ·rw [this];rfl
 ·rw [<- this];rfl
theorem cur_last {E:Nat->qJ} {o x:Nat × Obj} (him:i<m) (hi:L i=true) (hx:(E i).puts.lookup n=some x)
 (hl:∀ j,i<j->j<m->L j=true->(E j).puts.lookup n=none):yZ E m L n o=x:=by
 unfold yZ
 obtain ⟨k,rfl⟩:∃ k,m=(i+1)+k:=⟨m-(i+1),om⟩
 rw [List.range_add,Ll,List.range_succ,Ll]
 simp [*]
 apply fold_id
 intro c j hj
 rw [IX] at hj
 obtain ⟨j',hj',rfl⟩:=hj
 have hj'':=IU.1 hj'
 by_cases hL:L (i+1+j')=true
 ·rw [if_pos hL,hl _ om om hL];rfl
 ·rw [if_neg hL]
theorem dstOf_lt {ops:Array Me} {t:Nat} (h:vH ops i=some t):i<ops.size:=by
 unfold vH at h
 by_cases hl:i<ops.size
 ·exact hl
 ·rw [I5 om] at h;exact absurd h (by simp)
theorem dst_inj {ops:Array Me} {t:Nat} (h:DZ ops n=true) (hi:vH ops i=some t) (hj:vH ops j=some t):i=j:=by
 have key:∀ i j,j<i->vH ops i=some t->vH ops j=some t->False:=by
  intro i j hlt hi hj
  unfold DZ at h
  rw [IP] at h
  have h1:=h i (IU.2 (dstOf_lt hi))
  rw [II,IP] at h1
  have h2:=h1.2 j (IU.2 hlt)
  rw [hi,hj] at h2
  simp at h2
 rcases JF i j with hlt | rfl | hlt
 ·exact (key j i hlt hj hi).elim
 ·rfl
 ·exact (key i j hlt hi hj).elim
theorem dst_in {ops:Array Me} {t:Nat} (h:DZ ops n=true) (hi:vH ops i=some t):t<n:=by
 unfold DZ at h
 rw [IP] at h
 have h1:=h i (IU.2 (dstOf_lt hi))
 rw [II] at h1
 have h2:=h1.1
 rw [hi] at h2
 simpa using h2
theorem put_get (A:Act) (dst:Option Nat) (v:LW) (t:Nat):(A.put dst v).tmps[t]? = if dst=some t/\t<A.tmps.size then some v else A.tmps[t]? := by
 cases dst with
 | none=>simp [Act.put]
 | some d =>
   simp [Act.put,Jw.injEq]
   by_cases h:d=t
   ·subst h
    by_cases hl:d<A.tmps.size
    ·simp [hl]
    ·simp [hl]
   ·simp [h]
theorem writer_some {ops:Array Me} {t:Nat} (h:Dq ops t=some j):vH ops j=some t:=by
 have:=List.find?_some h
 simpa using this
theorem writer_none {ops:Array Me} {t:Nat} (h:Dq ops t=none):∀ i,i<ops.size->vH ops i≠some t:=by
 unfold Dq at h
 rw [List.find?_eq_none] at h
 intro i hi he
 exact h i (IU.2 hi) (by grind)
section
variable {P:LY} {ops:Array Me} {D:List Nat} {l:List (Nat × LW)} {a:Act} {w0:nN} {h:List (Nat × Obj)} {F0:LX→Prop}
variable {vals:(Nat→bT)→Nat→LW} {effs:(Nat→bT)→Nat→qJ} {fact:(Nat→bT)→Nat→LX→Prop} {Q:L9→Act→LX→Prop}
theorem eval_eq {A : Act} (hI : Gf ops D w0 h F0 vals effs fact a L A w ρ) (hok : DZ ops a.tmps.size = true) (hi : L i = false)
 (hd:∀ j,dep D i j=true->L j=true) {x:Operand} (hx:(match x with | .tmp t=>lookOk ops D l i t | _=>true)=true) (hfr:Fr a.tmps.size l a):eX ops D l (vals ρ) i x=A.eval x:=by
 cases x with
 | tmp t =>
   simp only at hx
   unfold eX lookAt
   unfold lookOk at hx
   simp only [Act.eval]
   cases hw:Dq ops t with
   | none =>
     rw [hw] at hx
     obtain ⟨v,hv⟩:=IK.1 hx
     rw [IW,hI.kept t (fun j hj hjt=>absurd hjt (writer_none hw j hj)),hv,hfr.slot t v hv]
   | some j =>
     rw [hw] at hx
     have hjt:=writer_some hw
     simp only [] at hx ⊢
     by_cases hdj:dep D i j=true
     ·rw [if_pos hdj,IW,hI.done j t hjt (hd j hdj)];rfl
     ·rw [if_neg hdj]
      have hdj':dep D i j=false:=by grind
      rw [hdj',KZ,II] at hx
      obtain ⟨hx,hv⟩:=hx
      obtain ⟨v,hv⟩:=IK.1 hv
      have hLj:L j=false:=by
       cases hb:L j with
       | false=>rfl
       | true =>
         simp at hx
         rcases hx with rfl | hx
         ·rw [hi] at hb;exact hb.symm
         ·rw [hI.closed j i hb hx] at hi;exact absurd hi (by simp)
      rw [IW,hI.kept t (fun k hk hkt=>by rw [dst_inj hok hkt hjt];exact hLj),hv,hfr.slot t v hv]
 | const v=>rfl
 | global g=>rfl
 | func f=>rfl
theorem want_eq {A:Act} (hI:Gf ops D w0 h F0 vals effs fact a L A w ρ) {o:Me}
 (hd:∀ j,dep D i j=true->L j=true) (hg:(match o.guard with | none=>true | some (j,_)=>dep D i j&&(vH ops j).isSome)=true):Region.wanted o (yielded ops A.tmps)=nD (vals ρ) o:=by
 unfold Region.wanted nD
 cases hgd:o.guard with
 | none=>rfl
 | some gb =>
   obtain ⟨g,b⟩:=gb
   rw [hgd] at hg
   simp at hg
   obtain ⟨hg1,hg2⟩:=hg
   obtain ⟨t,ht⟩:=IK.1 hg2
   have h1:=hI.done g t ht (hd g hg1)
   simp
   unfold yielded
   rw [show ((ops[g]?).bind (·.dst))=some t from ht]
   simp [*]
   cases vals ρ g<;>first | rfl | (cases c<;>rfl)
theorem Aa {L':Nat->Bool} (hh:∀ j,L j=true->L' j=true) (hb:wU h L n=true):wU h L' n=true:=by
 unfold wU at *
 rw [JE] at *
 exact hb.imp id (hh _)
theorem blk_congr {E E':Nat->qJ} (hh: ¬ n<h.length->E ((n-h.length) / 8)=E' ((n-h.length) / 8)):AY h E n=AY h E' n:=by
 unfold AY
 by_cases hn:n<h.length
 ·rw [if_pos hn,if_pos hn]
 ·rw [if_neg hn,if_neg hn,hh hn]
theorem Fg {A:Act} (hI:Gf ops D w0 h F0 vals effs fact a L A w ρ) (hi:L i=false)
 (hd:∀ j,dep D i j=true->L j=true) (hok:okN ops D h (effs ρ) i n=true) (x:Nat × Obj):yZ (effs ρ) ops.size (dep D i) n x=yZ (effs ρ) ops.size L n x:=by
 unfold okN at hok
 rw [II,IP] at hok
 symm
 apply cur_congr
 intro j hj
 have h3:=hok.2 j (IU.2 hj)
 by_cases hdj:dep D i j=true
 ·rw [hd j hdj,hdj]
 ·have hdj' : dep D i j = false := by simpa using hdj
  rw [hdj'] at h3 ⊢
  simp at h3
  rw [if_neg (c:=(false=true)) (by simp)]
  by_cases hLj:L j=true
  ·rw [if_pos hLj]
   rcases h3 with (h3 | h3) | h3
   ·simpa using h3
   ·rw [hI.closed j i hLj h3] at hi;exact absurd hi (by simp)
   ·rw [h3,hi] at hLj;exact absurd hLj (by simp)
  ·rw [if_neg hLj]
theorem Ef {E:Nat->qJ} (hok:okN ops D h E i n=true):wU h (dep D i) n=true:=by
 unfold okN at hok
 rw [II] at hok
 exact hok.1
theorem given_of {A:Act} (hI:Gf ops D w0 h F0 vals effs fact a L A w ρ) (hi:L i=false)
 (hd:∀ j,dep D i j=true->L j=true):iM ops D w0 h F0 effs fact i ρ (Tof ops h (effs ρ) L) w:=by
 refine ⟨?_,hI.aS,?_,?_,hI.iE,fun j hj=>hI.facts j (hd j hj)⟩
 ·rintro b ⟨n, x, hb, hn, rfl⟩
  have h1:=(hI.live n x hn hb).2
  by_cases hl:(yZ (effs ρ) ops.size L n x).1<w.heap.size
  ·exact hl
  ·rw [I5 om] at h1;exact absurd h1 (by simp)
 ·intro n x hn hok
  have hb:=Aa hd (Ef hok)
  obtain ⟨h1,h2⟩:=hI.live n x hn hb
  rw [Fg hI hi hd hok x]
  exact ⟨h2,⟨n,x,hb,hn,rfl⟩,h1⟩
 ·intro n n' x x' hne hn hn' hk hk'
  rw [Fg hI hi hd hk x,Fg hI hi hd hk' x']
  exact hI.inj n n' x x' hne hn hn' (Aa hd (Ef hk)) (Aa hd (Ef hk'))
def yS (L:Nat->Bool) (i:Nat):Nat->Bool:=fun j=>L j||decide (j=i)
theorem after_inv {A : Act} {v : LW} (hI : Gf ops D w0 h F0 vals effs fact a L A w ρ) (hok : DZ ops a.tmps.size = true) (hi : L i = false) (his : i < ops.size)
 (hd:∀ j,dep D i j=true->L j=true) (hlt:∀ j,dep D i j=true->j<i) (hloc:∀ j,j<ops.size->Loc D vals effs fact j)
 (hA:Bi ops D h vals effs fact i ρ (Tof ops h (effs ρ) L) w v w'):∃ ρ',Gf ops D w0 h F0 vals effs fact a (yS L i) (A.put (vH ops i) v) w' ρ':=by
 obtain ⟨r,rfl,hU,hP,hN,hND,hF⟩:=hA
 have hG:=given_of hI hi hd
 have hii:dep D i i=false:=by grind
 have same:∀ j,L j=true->vals (dU ρ i r) j=vals ρ j/\effs (dU ρ i r) j=effs ρ j/\fact (dU ρ i r) j=fact ρ j:=by
  intro j hj
  apply hloc j (hI.lsz j hj)
  intro k hk
  unfold dU
  rw [if_neg]
  rintro rfl
  rcases hk with rfl | hk
  ·rw [hj] at hi;exact absurd hi (by simp)
  ·rw [hI.closed j k hj hk] at hi;exact absurd hi (by simp)
 have bsame:∀ n,wU h L n=true->AY h (effs (dU ρ i r)) n=AY h (effs ρ) n:=by
  intro n hb
  apply blk_congr
  intro hn
  unfold wU at hb
  rw [decide_eq_false hn,KZ] at hb
  exact (same _ hb).2.1
 have hX:∀ b,(∃ n y x,(n,y)∈(effs (dU ρ i r) i).puts/\AY h (effs ρ) n=some x/\b=(yZ (effs ρ) ops.size (dep D i) n x).1)->Tof ops h (effs ρ) L b:=by
  rintro b ⟨n,y,x,hm,hb,rfl⟩
  have h1:=(hP n y hm).1
  exact ⟨n,x,Aa hd (Ef h1),hb,by rw [Fg hI hi hd h1]⟩
 have bsplit:∀ n,wU h (yS L i) n=true->wU h L n=true\/(¬ n<h.length/\(n-h.length) / 8=i):=by
  intro n hb
  unfold wU yS at *
  rw [JE] at hb
  rcases hb with hb | hb
  ·exact Js (by rw [hb];rfl)
  ·rw [JE] at hb
   rcases hb with hb | hb
   ·exact Js (by rw [hb];simp)
   ·by_cases hn : n < h.length
    ·exact Js (by simp [hn])
    ·exact J6 ⟨hn,by simpa using hb⟩
 have hnotborn:∀ n,¬ n<h.length->(n-h.length) / 8=i->wU h L n=false:=by
  intro n hn he
  unfold wU
  rw [decide_eq_false hn,he,hi];rfl
 have hiput:=fun n y hm=>Aa hd (Ef (hP n y hm).1)
 have blt:=fun n x hb hn=>hG.lt _ ⟨n,x,hb,hn,rfl⟩
 have cNone:∀ n x,(effs (dU ρ i r) i).puts.lookup n=none->yZ (effs (dU ρ i r)) ops.size (yS L i) n x=yZ (effs ρ) ops.size L n x:=by
  intro n x hl
  apply cur_congr
  intro j hj
  by_cases hji:j=i
  ·subst hji
   rw [hi];unfold yS;simp [hl]
  ·have e1 : yS L i j = L j := by unfold yS; simp [hji]
   rw [e1]
   by_cases hLj:L j=true
   ·rw [if_pos hLj,if_pos hLj,(same j hLj).2.1]
   ·rw [if_neg hLj,if_neg hLj]
 have cSome:∀ n x y,(effs (dU ρ i r) i).puts.lookup n=some y->yZ (effs (dU ρ i r)) ops.size (yS L i) n x=y:=by
  intro n x y hl
  have hk1:=(hP n y (mZ hl)).1
  apply cur_last his (by unfold yS;simp) hl
  intro j hij hj hLj
  have hji:j≠i:=by omega
  have hLj':L j=true:=by unfold yS at hLj;simpa [hji] using hLj
  rw [(same j hLj').2.1]
  unfold okN at hk1
  rw [II,IP] at hk1
  have h3:=hk1.2 j (IU.2 hj)
  simp at h3
  rcases h3 with ((h3 | h3) | h3) | h3
  ·simpa using h3
  ·exact absurd (hlt j h3) om
  ·rw [hI.closed j i hLj' h3] at hi;exact absurd hi (by simp)
  ·exact absurd h3 hji
 have cNew : ∀ n x, ¬ n < h.length -> (n - h.length) / 8 = i -> yZ (effs (dU ρ i r)) ops.size (yS L i) n x = x := by
  intro n x hn1 hn2
  unfold yZ
  apply fold_id
  intro c j hj
  by_cases hLj:yS L i j=true
  ·rw [if_pos hLj]
   have hnone:(effs (dU ρ i r) j).puts.lookup n=none:=by
    cases hl:(effs (dU ρ i r) j).puts.lookup n with
    | none=>rfl
    | some x =>
      have hm:=mZ hl
      have hbn:wU h L n=true:=by
       by_cases hji:j=i
       ·subst hji;exact hiput n x hm
       ·have hLj' : L j = true := by unfold yS at hLj; simpa [hji] using hLj
        rw [(same j hLj').2.1] at hm
        exact hI.putsOk j n x hLj' hm
      rw [hnotborn n hn1 hn2] at hbn
      exact absurd hbn (by simp)
   rw [hnone];rfl
  ·rw [if_neg hLj]
 have pOf:∀ n x y,(effs (dU ρ i r) i).puts.lookup n=some y->AY h (effs ρ) n=some x->w'.heap[y.1]? = some y.2/\(y.1=(yZ (effs ρ) ops.size L n x).1\/w.heap.size<=y.1/\(∀ n' y',(n',y')∈(effs (dU ρ i r) i).puts->n'=n\/y'.1<w.heap.size)/\(effs (dU ρ i r) i).news=[]):=by
  intro n x y hl hn
  obtain ⟨hk1,x',hx',h1,h2⟩:=hP n y (mZ hl)
  rw [hl] at h1 h2
  rw [hn] at hx'
  obtain rfl:x=x':=by simpa using hx'
  rw [Fg hI hi hd hk1] at h2
  exact ⟨h1,h2⟩
 have newT:∀ b,Tof ops h (effs (dU ρ i r)) (yS L i) b->Tof ops h (effs ρ) L b\/(w.heap.size<=b/\(b∈(effs (dU ρ i r) i).news.map (·.1)\/b∈(effs (dU ρ i r) i).puts.map (·.2.1))):=by
  rintro b ⟨n,x,hb,hn,rfl⟩
  rcases bsplit n hb with hb | ⟨hn1,hn2⟩
  ·rw [bsame n hb] at hn
   cases hl:(effs (dU ρ i r) i).puts.lookup n with
   | none=>rw [cNone n x hl];exact Js ⟨n,x,hb,hn,rfl⟩
   | some y =>
     rw [cSome n x y hl]
     rcases (pOf n x y hl hn).2 with h1 | h1
     ·rw [h1];exact Js ⟨n,x,hb,hn,rfl⟩
     ·exact J6 ⟨h1.1,J6 (IX.2 ⟨(n,y),mZ hl,rfl⟩)⟩
  ·right
   rw [cNew n x hn1 hn2]
   unfold AY at hn
   rw [if_neg hn1,hn2] at hn
   exact ⟨(hN _ x.1 x.2 hn).1,Js (IX.2 ⟨x,IV hn,rfl⟩)⟩
 refine ⟨dU ρ i r,?_,?_,?_,?_,?_,?_,?_,?_,?_,?_,?_,?_⟩
 ·have hd' := hI.defers
  unfold Act.put;split<;>exact hd'
 ·have hl' := hI.len
  unfold Act.put;split
  ·simpa using hl'
  ·exact hl'
 ·intro j hj
  unfold yS at hj
  rw [JE] at hj
  rcases hj with hj | hj
  ·exact hI.lsz j hj
  ·have : j = i := by simpa using hj
   omega
 ·intro j t hjt hjl
  rw [put_get]
  by_cases hij:j=i
  ·subst hij
   rw [if_pos ⟨hjt,by rw [hI.len];exact dst_in hok hjt⟩]
  ·have hj : L j = true := by
    unfold yS at hjl
    rw [JE] at hjl
    rcases hjl with hjl | hjl
    ·exact hjl
    ·exact absurd (by simpa using hjl) hij
   rw [if_neg (fun hc=>hij (dst_inj hok hjt hc.1)),hI.done j t hjt hj,(same j hj).1]
 ·intro t ht
  rw [put_get]
  by_cases hc:vH ops i=some t
  ·have := ht i his hc
   unfold yS at this
   simp at this
  ·rw [if_neg (fun h => hc h.1)]
   refine hI.kept t (fun j hj hjt=>?_)
   have:=ht j hj hjt
   unfold yS at this
   rw [Bool.or_eq_false_iff] at this
   exact this.1
 ·intro j k hj hk
  unfold yS at *
  rw [JE] at *
  left
  rcases hj with hj | hj
  ·exact hI.closed j k hj hk
  ·have e : j = i := by simpa using hj
   rw [e] at hk;exact hd k hk
 ·refine ⟨hU.os.trans hI.aS.os, hU.tape.trans hI.aS.tape, hU.output.trans hI.aS.output, JA hI.aS.size hU.size, fun k hk hkw => (hU.block k (IZ hk hI.aS.size) ?_).trans (hI.aS.block k hk hkw)⟩
  intro hx
  obtain ⟨n,x,hb,hn,e⟩:=hX k hx
  rcases (hI.live n x hn hb).1 with h1 | h1
  ·omega
  ·rw [<- e] at h1;exact hkw h1
 · intro n x hn hb
   rcases bsplit n hb with hb | ⟨hn1,hn2⟩
   ·rw [bsame n hb] at hn
    obtain ⟨h1,h2⟩:=hI.live n x hn hb
    cases hl:(effs (dU ρ i r) i).puts.lookup n with
    | none =>
      rw [cNone n x hl]
      refine ⟨h1,(hU.block _ (blt n x hb hn) ?_).trans h2⟩
      rintro ⟨n2,y2,x2,hm,hb2,he⟩
      have hne:n2≠n:=by grind
      rw [Fg hI hi hd (hP n2 y2 hm).1] at he
      exact hI.inj n2 n x2 x hne hb2 hn (hiput n2 y2 hm) hb he.symm
    | some y =>
      rw [cSome n x y hl]
      obtain ⟨q1,q2⟩:=pOf n x y hl hn
      refine ⟨?_,q1⟩
      rcases q2 with q2 | q2
      ·rw [q2];exact h1
      ·exact Js (JA hI.aS.size q2.1)
   ·rw [cNew n x hn1 hn2]
    unfold AY at hn
    rw [if_neg hn1,hn2] at hn
    obtain ⟨h1,h2⟩:=hN _ x.1 x.2 hn
    exact ⟨Js (JA hI.aS.size h1),h2⟩
 · intro n n' x x' hne hn hn' hb hb'
   rcases bsplit n hb with hb | ⟨hn1,hn2⟩<;>rcases bsplit n' hb' with hb' | ⟨hn1',hn2'⟩
   ·rw [bsame n hb] at hn; rw [bsame n' hb'] at hn'
    have key:=hI.inj n n' x x' hne hn hn' hb hb'
    have l1:=blt n x hb hn
    have l2:=blt n' x' hb' hn'
    cases hl:(effs (dU ρ i r) i).puts.lookup n with
    | none =>
      rw [cNone n x hl]
      cases hl':(effs (dU ρ i r) i).puts.lookup n' with
      | none=>rw [cNone n' x' hl'];exact key
      | some y' =>
        rw [cSome n' x' y' hl']
        rcases (pOf n' x' y' hl' hn').2 with q | q
        ·rw [q];exact key
        ·have:=q.1;omega
    | some y =>
      rw [cSome n x y hl]
      cases hl':(effs (dU ρ i r) i).puts.lookup n' with
      | none =>
        rw [cNone n' x' hl']
        rcases (pOf n x y hl hn).2 with q | q
        ·rw [q];exact key
        ·have:=q.1;omega
      | some y' =>
        rw [cSome n' x' y' hl']
        rcases (pOf n x y hl hn).2 with q | q
        ·rcases (pOf n' x' y' hl' hn').2 with q' | q'
         ·rw [q,q'];exact key
         ·rcases q'.2.1 n y (mZ hl) with q3 | q3
          ·exact absurd q3 hne
          ·have:=q'.1;omega
        ·rcases q.2.1 n' y' (mZ hl') with q3 | q3
         ·exact absurd q3.symm hne
         ·have:=q.1;omega
   ·rw [bsame n hb] at hn
    have l1:=blt n x hb hn
    rw [cNew n' x' hn1' hn2']
    unfold AY at hn'
    rw [if_neg hn1',hn2'] at hn'
    have h2:=(hN _ x'.1 x'.2 hn').1
    cases hl:(effs (dU ρ i r) i).puts.lookup n with
    | none=>rw [cNone n x hl];omega
    | some y =>
      rw [cSome n x y hl]
      rcases (pOf n x y hl hn).2 with q | q
      ·omega
      ·rw [q.2.2] at hn';simp at hn'
   ·rw [bsame n' hb'] at hn'
    have l1:=blt n' x' hb' hn'
    rw [cNew n x hn1 hn2]
    unfold AY at hn
    rw [if_neg hn1,hn2] at hn
    have h2:=(hN _ x.1 x.2 hn).1
    cases hl:(effs (dU ρ i r) i).puts.lookup n' with
    | none=>rw [cNone n' x' hl];omega
    | some y =>
      rw [cSome n' x' y hl]
      rcases (pOf n' x' y hl hn').2 with q | q
      ·omega
      ·rw [q.2.2] at hn;simp at hn
   ·rw [cNew n x hn1 hn2, cNew n' x' hn1' hn2']
    unfold AY at hn hn'
    rw [if_neg hn1,hn2] at hn
    rw [if_neg hn1',hn2'] at hn'
    intro hxx
    have e:(n-h.length)%8=(n'-h.length)%8:=by
     have q1:((effs (dU ρ i r) i).news.map (·.1))[(n-h.length)%8]? = some x.1:=by rw [I9,hn];rfl
     have q2:((effs (dU ρ i r) i).news.map (·.1))[(n'-h.length)%8]? = some x.1:=by rw [hxx,I9,hn'];rfl
     obtain ⟨l1,q1'⟩:=IQ.1 q1
     obtain ⟨l2,q2'⟩:=IQ.1 q2
     have hpw:=Jc.1 hND
     rcases JF ((n-h.length)%8) ((n'-h.length)%8) with hl | hl | hl
     ·exact absurd (q1'.trans q2'.symm) (hpw _ _ l1 l2 hl)
     ·exact hl
     ·exact absurd (q2'.trans q1'.symm) (hpw _ _ l2 l1 hl)
    omega
 ·refine hI.iE.dU hU hX ?_
  intro b hb
  rcases newT b hb with h1 | h1
  ·exact Js h1
  ·exact J6 h1.1
 ·intro j hj
  by_cases hji:j=i
  ·subst hji
   obtain ⟨S,hS1,hS2⟩:=hF
   exact ⟨S,fun b hb=>⟨(hS1 b hb).1,fun hT=>(hS1 b hb).2 ((newT b hT).imp id (·.2))⟩,hS2⟩
  ·have hLj : L j = true := by unfold yS at hj; simpa [hji] using hj
   rw [(same j hLj).2.2]
   refine (hI.facts j hLj).dU hU hX ?_
   intro b hb
   rcases newT b hb with h1 | h1
   ·exact Js h1
   ·exact J6 h1.1
 ·intro j n o hj hm
  have up:∀ n,wU h L n=true->wU h (yS L i) n=true:=fun n hb=>Aa (fun k hk=>by unfold yS;rw [hk];rfl) hb
  by_cases hji:j=i
  ·subst hji;exact up n (hiput n o hm)
  ·have hLj : L j = true := by unfold yS at hj; simpa [hji] using hj
   rw [(same j hLj).2.1] at hm
   exact up n (hI.putsOk j n o hLj hm)
theorem step_inv {A:Act} (hI:Gf ops D w0 h F0 vals effs fact a L A w ρ) (hok:DZ ops a.tmps.size=true) (hi:L i=false) (his:i<ops.size)
 (hd:∀ j,dep D i j=true->L j=true) (hlt:∀ j,dep D i j=true->j<i) (hlook:Fq ops D l=true) (hfr:Fr a.tmps.size l a) (hloc:∀ j,j<ops.size->Loc D vals effs fact j)
 (hobl:mW P ops D l w0 h F0 vals effs fact i):wpOp P ops Q i (fun A' w'=>∃ ρ',Gf ops D w0 h F0 vals effs fact a (yS L i) A' w' ρ') A w:=by
 obtain ⟨o,ho⟩:∃ o,ops[i]? = some o:=⟨_,JL his⟩
 have hlk:=by
  unfold Fq at hlook
  rw [IP] at hlook
  have:=hlook i (IU.2 his)
  rw [ho] at this
  simpa using this
 unfold opLooksOk at hlk
 simp only [II] at hlk
 obtain ⟨⟨k1,k2⟩,k3⟩:=hlk
 have hG:=given_of hI hi hd
 have hO:=hobl o ho ρ _ w hG
 have hw:=want_eq hI hd k3
 have hdst:o.dst=vH ops i:=by unfold vH;rw [ho];rfl
 have hex:execOp (eX ops D l (vals ρ) i) o=execOp A.eval o:=by
  apply execOp_congr
  ·intro cs b hs
   rw [hs] at k2;simp at k2
  ·intro x hx
   rw [Jy] at k1
   exact eval_eq hI hok hi hd (k1 x hx) hfr
 unfold wpOp
 rw [ho]
 simp
 rw [hw]
 by_cases hwant:nD (vals ρ) o=true
 ·rw [if_pos hwant] at hO ⊢
  refine Js (wp_of_opv (by rw [<- hex];exact hO) (fun v w' hA=>?_))
  rw [hdst]
  exact after_inv hI hok hi his hd hlt hloc hA
 ·rw [if_neg hwant] at hO ⊢
  rw [hdst]
  exact after_inv hI hok hi his hd hlt hloc hO
def A7 (ops:Array Me) (l:List (Nat × LW)) (V:Nat->LW) (keep:List Nat):List (Nat × LW) :=
 keep.map fun t=>(t,match Dq ops t with | some j=>V j | none=>(l.lookup t).getD LV)
def keepOk (ops:Array Me) (l:List (Nat × LW)) (keep:List Nat):Bool:=keep.all fun t=>(Dq ops t).isSome||(l.lookup t).isSome
def zO (m:Nat) (h:List (Nat × Obj)) (E:Nat->qJ):List (Nat × Obj) :=
 (h.mapIdx fun n x=>yZ E m (fun _=>true) n x)++(Jd m).flatMap fun j=>((E j).news.take 8).mapIdx fun k x=>yZ E m (fun _=>true) (h.length+8*j+k) x
structure St (w0:nN) (h:List (Nat × Obj)) (F:LX->Prop) (w:LX):Prop where
 aS:w0.Since w
 at_:∀ x∈h,w0.ok x.1/\w.heap[x.1]? = some x.2
 nodup:(h.map (·.1)).Nodup
 facts:bZ (fun b=>b∈h.map (·.1)) F w
theorem inv_start (hS:St w0 h F0 w) (ρ:Nat->bT):Gf ops D w0 h F0 vals effs fact a (fun _=>false) a w ρ:=by
 have hb:∀ n,wU h (fun _=>false) n=true->n<h.length:=by
  intro n hh
  unfold wU at hh
  simpa using hh
 have hblk:∀ n x,wU h (fun _=>false) n=true->AY h (effs ρ) n=some x->h[n]? = some x:=by
  intro n x h1 h2
  unfold AY at h2
  rw [if_pos (hb n h1)] at h2
  exact h2
 have hcur:∀ n x,yZ (effs ρ) ops.size (fun _=>false) n x=x:=by
  intro n x
  exact fold_id (fun c j _=>rfl) x
 refine ⟨rfl,rfl,fun i hi=>by grind,fun i t _ hi=>by grind,fun _ _=>rfl,fun i j hi=>by grind,hS.aS,?_,?_,?_,fun i hi=>by grind,fun i n o hi=>by grind⟩
 ·intro n x hn hh
  have h1:=hblk n x hh hn
  rw [hcur]
  exact hS.at_ x (IV h1)
 ·intro n n' x x' hne hn hn' h1 h2
  intro hxx
  have hpw:=Jc.1 hS.nodup
  have p1:(h.map (·.1))[n]? = some x.1:=by grind
  have p2:(h.map (·.1))[n']? = some x.1:=by grind
  obtain ⟨l1,p1'⟩:=IQ.1 p1
  obtain ⟨l2,p2'⟩:=IQ.1 p2
  rcases JF n n' with hl | hl | hl
  ·exact absurd (p1'.trans p2'.symm) (hpw _ _ l1 l2 hl)
  ·exact hne hl
  ·exact absurd (p2'.trans p1'.symm) (hpw _ _ l2 l1 hl)
 ·obtain ⟨S, hS1, hS2⟩ := hS.facts
  refine ⟨S,fun b hbS=>⟨(hS1 b hbS).1,?_⟩,hS2⟩
  rintro ⟨n,x,h1,h2,rfl⟩
  rw [hcur] at hbS
  exact (hS1 _ hbS).2 (IX.2 ⟨x,IV (hblk n x h1 h2),rfl⟩)
theorem Gf.congrL {L':Nat->Bool} {A:Act} (hI:Gf ops D w0 h F0 vals effs fact a L A w ρ) (he:∀ i,L i=L' i):Gf ops D w0 h F0 vals effs fact a L' A w ρ:=by
 rw [<- funext he];exact hI
theorem inv_end {A : Act} (hI : Gf ops D w0 h F0 vals effs fact a L A w ρ) (hL : ∀ i, i < ops.size -> L i = true) (hfr : Fr a.tmps.size l a) :
 (∀ keep,keepOk ops l keep=true->Fr a.tmps.size (A7 ops l (vals ρ) keep) A)/\St w0 (zO ops.size h (effs ρ)) (fun w=>F0 w/\∀ i,i<ops.size->fact ρ i w) w:=by
 refine ⟨?_,?_⟩
 ·intro keep hkeep
  refine ⟨hI.defers.trans hfr.defers,hI.len,fun t v hv=>?_⟩
  have hm:=xM hv
  obtain ⟨t',ht',he⟩:=IX.1 hm
  simp at he
  obtain ⟨rfl,rfl⟩:=he
  unfold keepOk at hkeep
  rw [IP] at hkeep
  have hk:=hkeep t' ht'
  cases hw:Dq ops t' with
  | none =>
    obtain ⟨v,hv⟩:=IK.1 (show (l.lookup t').isSome=true from by grind)
    rw [hI.kept t' (fun i hi hit=>absurd hit (writer_none hw i hi)),hv]
    exact hfr.slot t' v hv
  | some j =>
    have hjt:=writer_some hw
    rw [hI.done j t' hjt (hL j (dstOf_lt hjt))]
 ·have curL : ∀ n x, yZ (effs ρ) ops.size (fun _ => true) n x = yZ (effs ρ) ops.size L n x := by
   intro n x
   apply cur_congr
   intro j hj
   rw [hL j hj]
  have nb:∀ j k x,j<ops.size->k<8->(effs ρ j).news[k]? = some x->wU h L (h.length+8*j+k)=true/\AY h (effs ρ) (h.length+8*j+k)=some x:=by
   intro j k x hj hk hq
   constructor
   ·unfold wU
    rw [show (h.length+8*j+k-h.length) / 8=j by omega,hL j hj];simp
   ·unfold AY
    rw [if_neg om,show (h.length+8*j+k-h.length) / 8=j by omega,show (h.length+8*j+k-h.length)%8=k by omega,hq]
  have ob:∀ n x,h[n]? = some x->wU h L n=true/\AY h (effs ρ) n=some x:=by
   intro n x hq
   have hl:=(IQ.1 hq).1
   exact ⟨by unfold wU;simp [hl],by unfold AY;rw [if_pos hl,hq]⟩
  have g1:∀ n y,(h.mapIdx fun n x=>yZ (effs ρ) ops.size (fun _=>true) n x)[n]? = some y->∃ x,wU h L n=true/\AY h (effs ρ) n=some x/\y=yZ (effs ρ) ops.size L n x:=by grind
  have g2:∀ j k y,j<ops.size->(((effs ρ j).news.take 8).mapIdx fun k x=>yZ (effs ρ) ops.size (fun _=>true) (h.length+8*j+k) x)[k]? = some y->k<8/\∃ x,wU h L (h.length+8*j+k)=true/\AY h (effs ρ) (h.length+8*j+k)=some x/\y=yZ (effs ρ) ops.size L (h.length+8*j+k) x:=by grind
  have memH:∀ y∈zO ops.size h (effs ρ),∃ n x,wU h L n=true/\AY h (effs ρ) n=some x/\y=yZ (effs ρ) ops.size L n x:=by
   intro y hy
   rcases KJ.1 hy with hy | hy
   ·obtain ⟨n, hn⟩ := IJ.1 hy
    obtain ⟨x,q⟩:=g1 n y hn
    exact ⟨n,x,q⟩
   ·obtain ⟨j, hj, hy⟩ := List.mem_flatMap.1 hy
    obtain ⟨k,hk⟩:=IJ.1 hy
    obtain ⟨_,x,q⟩:=g2 j k y (IU.1 hj) hk
    exact ⟨_,x,q⟩
  refine ⟨hI.aS,?_,?_,?_⟩
  ·intro y hy
   obtain ⟨n,x,hb,hn,rfl⟩:=memH y hy
   exact hI.live n x hn hb
  ·unfold zO
   rw [List.nodup_iff_pairwise_ne,Lm]
   refine List.pairwise_append.2 ⟨?_,?_,?_⟩
   ·refine Jc.2 (fun i j hi hj hij => ?_)
    obtain ⟨x,b1,k1,e1⟩:=g1 i _ (IR hi)
    obtain ⟨x',b2,k2,e2⟩:=g1 j _ (IR hj)
    rw [e1,e2]
    exact hI.inj i j x x' om k1 k2 b1 b2
   ·refine List.pairwise_flatMap.2 ⟨?_, ?_⟩
    ·intro j hj
     refine Jc.2 (fun i i' hi hi' hij=>?_)
     obtain ⟨_,x,b1,k1,e1⟩:=g2 j i _ (IU.1 hj) (IR hi)
     obtain ⟨_,x',b2,k2,e2⟩:=g2 j i' _ (IU.1 hj) (IR hi')
     rw [e1,e2]
     exact hI.inj _ _ x x' om k1 k2 b1 b2
    ·refine Jc.2 (fun i i' hi hi' hij => ?_)
     intro y hy y' hy'
     simp only [List.getElem_range] at hy hy'
     obtain ⟨k,hk⟩:=IJ.1 hy
     obtain ⟨k',hk'⟩:=IJ.1 hy'
     obtain ⟨l1,x,b1,k1,e1⟩:=g2 i k y (by grind) hk
     obtain ⟨l2,x',b2,k2,e2⟩:=g2 i' k' y' (by grind) hk'
     rw [e1,e2]
     exact hI.inj _ _ x x' om k1 k2 b1 b2
   ·intro y hy y' hy'
    obtain ⟨n,hn⟩:=IJ.1 hy
    obtain ⟨j,hj,hy'⟩:=List.mem_flatMap.1 hy'
    obtain ⟨k,hk⟩:=IJ.1 hy'
    obtain ⟨x,b1,k1,e1⟩:=g1 n y hn
    obtain ⟨l2,x',b2,k2,e2⟩:=g2 j k y' (IU.1 hj) hk
    have hl:n<h.length:=by grind
    rw [e1,e2]
    exact hI.inj _ _ x x' om k1 k2 b1 b2
  ·have join : ∀ l : List Nat, (∀ i ∈ l, i < ops.size) -> bZ (Tof ops h (effs ρ) L) (fun w => F0 w /\ ∀ i ∈ l, fact ρ i w) w := by
    intro l
    induction l with
    | nil =>
      intro _
      obtain ⟨S,h1,h2⟩:=hI.iE
      exact ⟨S,h1,fun w' hw=>⟨h2 w' hw,fun i hi=>by grind⟩⟩
    | cons x l ih =>
      intro hl
      obtain ⟨S,h1,h2⟩:=ih (fun i hi=>hl i (JH _ hi))
      obtain ⟨S',h1',h2'⟩:=hI.facts x (hL x (hl x Jk))
      refine ⟨fun b=>S b\/S' b,fun b hb=>hb.elim (h1 b) (h1' b),fun w' hw=>?_⟩
      obtain ⟨q1,q2⟩:=h2 w' (fun b hb=>hw b (Js hb))
      exact ⟨q1,fun i hi=>by grind⟩
   obtain ⟨S,h1,h2⟩:=join (Jd ops.size) (fun i hi=>IU.1 hi)
   refine ⟨S,fun b hb=>⟨(h1 b hb).1,fun hm=>(h1 b hb).2 ?_⟩,fun w' hw=>?_⟩
   ·obtain ⟨x, hx, rfl⟩ := IX.1 hm
    obtain ⟨n,y,q1,q2,q3⟩:=memH x hx
    exact ⟨n,y,q1,q2,by grind⟩
   ·obtain ⟨q1, q2⟩ := h2 w' hw
    exact ⟨q1,fun i hi=>q2 i (IU.2 hi)⟩
end
end
section
theorem ready_mem {md:LG} {ops:Array Me} {L:Array Bool} (h:i∈JK md ops L) :
 ∃ o,ops[i]? = some o/\L.getD i true=false/\∀ e∈o.after,JJ md e=true->L.getD e.on false=true:=by
 unfold JK at h
 rw [List.mem_filter] at h
 obtain ⟨h1,h2⟩:=h
 rw [II] at h2
 obtain ⟨h2,h3⟩:=h2
 cases ho:ops[i]? with
 | none=>rw [ho] at h3;simp at h3
 | some o =>
   rw [ho] at h3
   simp only [Ju,LD,Jy] at h3
   refine ⟨o,rfl,by simpa using h2,fun e he hb=>?_⟩
   have:=h3 e he
   rw [hb] at this
   simpa using this
def BN (md:LG) (ops:Array Me):Bool:=(Jd ops.size).all fun i=>((ops[i]?).map fun o=>o.after.all fun e=> !JJ md e||decide (e.on<i)).getD true
theorem all_listed {md : LG} {ops : Array Me} {L : Array Bool} (hd : BN md ops = true) (h : JK md ops L = []) : ∀ i, i < ops.size -> L.getD i true = true := by
 intro i
 induction i using Nat.strongRecOn with
 | ind i ih =>
   intro hi
   cases hl:L.getD i true with
   | true=>rfl
   | false =>
     exfalso
     have hmem:i∈JK md ops L:=by
      unfold JK
      rw [List.mem_filter]
      refine ⟨IU.2 hi,?_⟩
      rw [hl]
      simp only [Bool.not_false,Bool.true_and]
      have hdi:((ops[i]?).map fun o=>o.after.all fun e=> !JJ md e||decide (e.on<i)).getD true=true:=by
       unfold BN at hd
       rw [IP] at hd
       exact hd i (IU.2 hi)
      cases ho:ops[i]? with
      | none=>rw [Kr] at ho;omega
      | some o =>
        rw [ho] at hdi
        simp only [Ju,LD,Jy] at hdi ⊢
        intro e he
        have h1:=hdi e he
        cases hb:JJ md e with
        | false=>rfl
        | true =>
          rw [hb] at h1
          simp at h1
          have h2:=ih e.on h1 om
          simp only [Bool.not_true,KZ]
          have h3:L.getD e.on true=true:=h2
          rw [IW] at h3 ⊢
          cases hq:L[e.on]? with
          | none =>
            exfalso
            rw [Kr] at hq
            have:L.getD i true=true:=by rw [IW,I5 om];rfl
            rw [this] at hl;exact absurd hl (by simp)
          | some b=>rw [hq] at h3;simpa using h3
     rw [h] at hmem
     exact absurd hmem (by simp)
def togo (L:Array Bool):Nat:=L.toList.countP (fun b=> !b)
theorem togo_set {L:Array Bool} (h:L.getD i true=false):togo (L.setIfInBounds i true)+1=togo L:=by
 unfold togo
 have hi:i<L.size:=by
  by_cases hh:i<L.size
  ·exact hh
  ·rw [IW,I5 om] at h;exact absurd h (by simp)
 have hv:L.toList[i]? = some false:=by
  rw [IW,JL hi] at h
  rw [Array.getElem?_toList,JL hi]
  simpa using h
 rw [Array.toList_setIfInBounds]
 revert hv
 generalize L.toList=l
 intro hv
 clear hi h
 induction l generalizing i with
 | nil=>simp at hv
 | cons b l ih =>
   cases i with
   | zero=>simp at hv;subst hv;simp
   | succ i=>simp at hv;simp only [List.set_cons_succ,List.countP_cons];have:=ih hv;omega
variable {P:LY} {ops:Array Me} {Q:L9→Act→LX→Prop}
theorem wpAny_inv (I : Array Bool -> Act -> LX -> Prop) (hd : BN .any ops = true)
 (hs:∀ L a w i o,I L a w->ops[i]? = some o->L.getD i true=false->(∀ e∈o.after,JJ .any e=true->L.getD e.on false=true)->wpOp P ops Q i (I (L.setIfInBounds i true)) a w)
 (he:∀ L a w,I L a w->(∀ i,i<ops.size->L.getD i true=true)->Q .normal a w) :
 ∀ fuel L a w,togo L<=fuel->I L a w->wpAny P .any ops Q fuel L a w:=by
 intro fuel
 induction fuel with
 | zero =>
   intro L a w ht hI
   have hn:JK .any ops L=[]:=by
    cases hr:JK .any ops L with
    | nil=>rfl
    | cons i l =>
      obtain ⟨o,_,h2,_⟩:=ready_mem (md:=.any) (ops:=ops) (L:=L) (i:=i) (by rw [hr];simp)
      have:=togo_set h2
      omega
   exact ⟨hn,he L a w hI (all_listed hd hn)⟩
 | succ fuel ih =>
   intro L a w ht hI
   refine ⟨fun hn=>he L a w hI (all_listed hd hn),fun i hi=>?_⟩
   obtain ⟨o,h1,h2,h3⟩:=ready_mem hi
   have hc:=togo_set h2
   exact wpOp_mono (fun a w h=>ih _ a w om h) (hs L a w i o hI h1 h2 h3)
theorem wp_region_inv {id:Nat} {a:Act} (hm:P.follows .mixedOrders=true) (I:Array Bool->Act->LX->Prop) (hd:BN .any ops=true)
 (h0:I (Array.replicate ops.size false) a w.drew)
 (hs:∀ L a w i o,I L a w->ops[i]? = some o->L.getD i true=false->(∀ e∈o.after,JJ .any e=true->L.getD e.on false=true)->wpOp P ops Q i (I (L.setIfInBounds i true)) a w)
 (he:∀ L a w,I L a w->(∀ i,i<ops.size->L.getD i true=true)->Q .normal a w):(KA id ops true).wp P Q a w:=by
 refine wp_region_any hm (wpAny_inv I hd hs he ops.size _ a _ ?_ h0)
 unfold togo
 rw [Array.toList_replicate]
 exact JA (List.countP_le_length) (by simp)
end
variable {o:Obj} {g:Nat}
section
theorem pG.drew {X:Nat->Prop} (h:pG X w w'):pG X w w'.drew:=⟨h.os,h.tape,h.output,h.size,h.block⟩
theorem St.drew {w0:nN} {h:List (Nat × Obj)} {F:LX->Prop} (hS:St w0 h F w):St w0 h F w.drew :=
 ⟨hS.aS.drew,hS.at_,hS.nodup,by
  obtain ⟨S,h1,h2⟩:=hS.facts
  exact ⟨S,h1,h2⟩⟩
section
variable {P:LY} {ops:Array Me} {D:List Nat} {l:List (Nat × LW)} {a:Act} {w0:nN} {h:List (Nat × Obj)} {F0:LX→Prop}
variable {vals:(Nat→bT)→Nat→LW} {effs:(Nat→bT)→Nat→qJ} {fact:(Nat→bT)→Nat→LX→Prop} {Q:L9→Act→LX→Prop}
theorem DC {id : Nat} (hm : P.follows .mixedOrders = true) (hdn : BN .any ops = true) (hD : DOk ops D = true) (hok : DZ ops a.tmps.size = true) (hlook : Fq ops D l = true)
 (hloc:∀ j,j<ops.size->Loc D vals effs fact j) (hobl:∀ i,i<ops.size->mW P ops D l w0 h F0 vals effs fact i) (keep:List Nat) (hkeep:keepOk ops l keep=true) (hfr:Fr a.tmps.size l a) (hS:St w0 h F0 w)
 (hend:∀ ρ A w',Fr a.tmps.size (A7 ops l (vals ρ) keep) A->St w0 (zO ops.size h (effs ρ)) (fun w=>F0 w/\∀ i,i<ops.size->fact ρ i w) w'->Q .normal A w'):(KA id ops true).wp P Q a w:=by
 have dj:∀ i,i<ops.size->∀ j,dep D i j=true->j<i/\∃ e∈edgesOf ops i,e=j\/dep D e j=true:=by
  intro i hi j hd
  unfold DOk at hD
  rw [IP] at hD
  have h1:=hD i (IU.2 hi)
  rw [II,IP,decide_eq_true_eq] at h1
  have hji:j<i:=by
   by_cases hh:j<i
   ·exact hh
   ·unfold dep at hd
    rw [Nat.testBit_lt_two_pow (IZ h1.1 (JZ om om))] at hd
    exact absurd hd (by simp)
  have h2:=h1.2 j (IU.2 hji)
  rw [hd] at h2
  simp at h2
  exact ⟨hji,h2⟩
 refine wp_region_inv hm (fun L A w=>∃ ρ,L.size=ops.size/\Gf ops D w0 h F0 vals effs fact a (fun i=>L.getD i false) A w ρ) hdn ?_ ?_ ?_
 ·refine ⟨fun _ => {}, by simp, (inv_start hS.drew _).congrL (fun i => ?_)⟩
  rw [IW,Array.getElem?_replicate];split<;>rfl
 ·rintro L A w' i o ⟨ρ, hsz, hI⟩ ho hl hdeps
  have hi:i<ops.size:=by grind
  have hlf:L.getD i false=false:=by grind
  have hdL:∀ j,dep D i j=true->L.getD j false=true:=by
   intro j hj
   obtain ⟨_,e,he,hej⟩:=dj i hi j hj
   have hLe:L.getD e false=true:=by
    unfold edgesOf at he
    rw [ho] at he
    simp at he
    obtain ⟨ed,⟨h1,h2⟩,rfl⟩:=he
    exact hdeps ed h1 h2
   rcases hej with rfl | hej
   ·exact hLe
   ·exact hI.closed e j hLe hej
  refine wpOp_mono ?_ (step_inv hI hok hlf hi hdL (fun j hj=>(dj i hi j hj).1) hlook hfr hloc (hobl i hi))
  rintro A' w2 ⟨ρ',hI'⟩
  refine ⟨ρ',by grind,hI'.congrL (fun j=>?_)⟩
  unfold yS
  simp [Array.getElem?_setIfInBounds]
  by_cases hij:i=j
  ·subst hij
   rw [if_pos rfl,if_pos om];simp
  ·rw [if_neg hij,decide_eq_false (fun e=>hij e.symm),Bool.or_false]
 ·rintro L A w' ⟨ρ, hsz, hI⟩ hall
  obtain ⟨h1,h2⟩:=inv_end hI (fun i hi=>by grind) hfr
  exact hend ρ A w' (h1 keep hkeep) h2
theorem BK {id : Nat} (hD : DSeq ops.size D = true) (hok : DZ ops a.tmps.size = true) (hlook : Fq ops D l = true)
 (hloc:∀ j,j<ops.size->Loc D vals effs fact j) (hobl:∀ i,i<ops.size->mW P ops D l w0 h F0 vals effs fact i) (keep:List Nat) (hkeep:keepOk ops l keep=true) (hfr:Fr a.tmps.size l a) (hS:St w0 h F0 w)
 (hend:∀ ρ A w',Fr a.tmps.size (A7 ops l (vals ρ) keep) A->St w0 (zO ops.size h (effs ρ)) (fun w=>F0 w/\∀ i,i<ops.size->fact ρ i w) w'->Q .normal A w'):(KA id ops false).wp P Q a w:=by
 have dj:∀ i,i<ops.size->∀ j,dep D i j=decide (j<i):=by
  intro i hi j
  unfold DSeq at hD
  unfold dep
  rw [show D.getD i 0=2^i-1 by grind,Nat.testBit_two_pow_sub_one]
 apply wp_region
 have key:∀ m k A w,k+m=ops.size->(∃ ρ,Gf ops D w0 h F0 vals effs fact a (fun i=>decide (i<k)) A w ρ)->wpOps P ops Q (List.range' k m) A w:=by
  intro m
  induction m with
  | zero =>
    rintro k A w hk ⟨ρ,hI⟩
    obtain ⟨h1,h2⟩:=inv_end hI (fun i hi=>by grind) hfr
    exact hend ρ A w (h1 keep hkeep) h2
  | succ m ih =>
    rintro k A w hk ⟨ρ,hI⟩
    refine wpOp_mono ?_ (step_inv hI hok (by simp) om (fun j hj=>?_) (fun j hj=>?_) hlook hfr hloc (hobl k om))
    ·rintro A' w2 ⟨ρ', hI'⟩
     refine ih (k+1) A' w2 om ⟨ρ',hI'.congrL (fun j=>?_)⟩
     unfold yS
     by_cases h1:j=k
     ·subst h1;simp
     ·rw [decide_eq_false h1,Bool.or_false,decide_eq_decide];omega
    ·rw [dj k om] at hj;exact hj
    ·rw [dj k om] at hj;simpa using hj
 rw [List.range_eq_range']
 exact key ops.size 0 a w om ⟨fun _=>{},(inv_start hS _).congrL (fun i=>rfl)⟩
end
def Gs:Obj->Addr->Option LW
 | .cells c _ _,a=>if a.spot.isSome then none else c[a.off]?
 | _,_=>none
def AO:Obj->Nat->Bool
 | .cells _ _ (lo,hi),o=>lo<=o&&o<hi
 | _,_=>false
def putIn:Obj->Nat->LW->Obj
 | .cells c e f,o,v=>.cells (c.setIfInBounds o v) e f
 | o,_,_=>o
def shapeIn:Obj->Option (LZ × Nat)
 | .cells c e _=>some (e,c.size)
 | _=>none
def plainV:LW->Bool
 | .agg _=>false
 | .tuple _=>false
 | _=>true
def uN (P : LY) : Sem α -> List Nat -> List (Nat × Obj) -> List Nat -> Option (α × List (Nat × Obj) × List (Nat × Nat))
 | .pure a,_,K,_=>some (a,K,[])
 | .load _ a k, ps, K, ns => match K[ps.headD 0]? with
   | some (g, o) => match Gs o a with
     | some v=>(uN P (k v) ps.tail K ns).map fun r=>(r.1,r.2.1,(a.block,g)::r.2.2)
     | none=>none
   | none=>none
 | .store _ a v k, ps, K, ns => match plainV v, K[ps.headD 0]? with
   | true, some (g, o) => match Gs o a, AO o a.off with
     | some _,false=>(uN P k ps.tail (K.set (ps.headD 0) (g,putIn o a.off v)) ns).map fun r=>(r.1,r.2.1,(a.block,g)::r.2.2)
     | _,_=>none
   | _,_=>none
 | .new o k,ps,K,ns=>uN P (k (ns.headD 0)) ps (K++[(ns.headD 0,o)]) ns.tail
 | .shape b k, ps, K, ns => match K[ps.headD 0]? with
   | some (g, o) => match shapeIn o with
     | some s=>(uN P (k (some s)) ps.tail K ns).map fun r=>(r.1,r.2.1,(b,g)::r.2.2)
     | none=>none
   | none=>none
 | .frozen a k, ps, K, ns => match K[ps.headD 0]? with
   | some (g,o)=>(uN P (k (AO o a.off)) ps.tail K ns).map fun r=>(r.1,r.2.1,(a.block,g)::r.2.2)
   | none=>none
 | .program k,ps,K,ns=>uN P (k P) ps K ns
 | .mark _ k,ps,K,ns=>uN P k ps K ns
 | _,_,_,_=>none
def Eqs:List (Nat × Nat)->Prop
 | []=>True
 | e::l=>e.1=e.2/\Eqs l
def mP (P : LY) : Sem α -> LX -> List Nat
 | .pure _,_=>[]
 | .load _ a k, w => match w.cell? a with
   | some v=>mP P (k v) w
   | none=>[]
 | .store _ a v k,w=>mP P k (w.setCell a v)
 | .new o k,w=>w.heap.size::mP P (k w.heap.size) { w with heap:=w.heap.push o}
 | .shape r k,w=>mP P (k (w.shape? r)) w
 | .frozen a k,w=>mP P (k (w.frozen? a)) w
 | .program k,w=>mP P (k P) w
 | .mark _ k,w=>mP P k w
 | _,_=>[]
def bI (K:List (Nat × Obj)) (w:LX):Prop:=∀ x∈K,w.heap[x.1]? = some x.2
theorem cell_in {a:Addr} (h:w.heap[a.block]? = some o) {v:LW} (hc:Gs o a=some v):w.cell? a=some v:=by
 unfold Jo
 rw [h]
 cases o<;>first | exact hc | (done)
theorem frozen_in {a:Addr} (h:w.heap[a.block]? = some o):w.frozen? a=AO o a.off:=by
 unfold World.frozen?
 rw [h]
 cases o<;>rfl
theorem shape_in {b:Nat} (h:w.heap[b]? = some o) {s:LZ × Nat} (hs:shapeIn o=some s):w.shape? b=some s:=by
 unfold World.shape?
 rw [h]
 cases o<;>first | exact hs | (done)
theorem put_in {a:Addr} (h:w.heap[a.block]? = some o) {u:LW} (hc:Gs o a=some u) (v:LW):(w.setCell a v).heap[a.block]? = some (putIn o a.off v):=by
 simp [World.setCell,Array.getElem?_modify,h]
 cases o<;>simp only [Gs] at hc<;>first | (simp at hc;done) | skip
 simp only [putIn]
 by_cases hs:a.spot.isSome=true
 ·rw [if_pos hs] at hc;simp at hc
 ·rw [if_neg hs]
theorem mem_set_cases {l:List α} {x y:α} (h:y∈l.set i x):y=x\/∃ j,j≠i/\l[j]? = some y:=by
 obtain ⟨j,hj⟩:=IJ.1 h
 rw [Lp] at hj
 by_cases hij:i=j
 ·subst hij
  rw [if_pos rfl] at hj
  split at hj
  ·left;simpa using hj.symm
  ·simp at hj
 ·rw [if_neg hij] at hj
  exact J6 ⟨j,fun e=>hij e.symm,hj⟩
theorem nodup_get {l:List (Nat × Obj)} (h:(l.map (·.1)).Nodup) {g':Nat} {o':Obj} (hi:l[i]? = some (g,o)) (hj:l[j]? = some (g',o')) (hne:i≠j):g≠g':=by
 rintro rfl
 have hpw:=Jc.1 h
 have p1:(l.map (·.1))[i]? = some g:=by grind
 have p2:(l.map (·.1))[j]? = some g:=by grind
 obtain ⟨l1,p1'⟩:=IQ.1 p1
 obtain ⟨l2,p2'⟩:=IQ.1 p2
 rcases JF i j with hl | hl | hl
 ·exact absurd (p1'.trans p2'.symm) (hpw _ _ l1 l2 hl)
 ·exact hne hl
 ·exact absurd (p2'.trans p1'.symm) (hpw _ _ l2 l1 hl)
def GOk (P:LY) (s:Sem α) (w:LX) (K:List (Nat × Obj)) (x:α) (K':List (Nat × Obj)) (w':LX):Prop :=
 s.run P w=.ok x w'/\bI K' w'/\K'.map (·.1)=K.map (·.1)++mP P s w/\pG (fun b=>b∈K.map (·.1)) w w'/\(∀ b∈mP P s w,w.heap.size<=b)/\(mP P s w).Nodup
theorem uK {P : LY} (s : Sem α) : ∀ (ps : List Nat) (K : List (Nat × Obj)) (w : LX) (x : α) (K' : List (Nat × Obj)) (es : List (Nat × Nat)),
 bI K w->(K.map (·.1)).Nodup->uN P s ps K (mP P s w)=some (x,K',es)->Eqs es->∃ w',GOk P s w K x K' w':=by
 induction s with
 | pure a =>
   intro ps K w x K' es hK hN hg he
   obtain ⟨rfl,rfl,rfl⟩:=hg
   exact ⟨w,rfl,hK,by simp [mP],pG.refl _ _,by simp [mP],by simp [mP]⟩
 | load m a k ih =>
   intro ps K w x K' es hK hN hg he
   simp only [uN] at hg
   split at hg
   ·rename_i g o hq
    split at hg
    ·rename_i v hc
     have hmem:=IV hq
     rw [IM] at hg
     obtain ⟨⟨x1,K1,es1⟩,hg1,hg2⟩:=hg
     obtain ⟨rfl,rfl,rfl⟩:=hg2
     obtain ⟨he1,he2⟩:=he
     simp only at he1
     have hcell:w.cell? a=some v:=cell_in (by rw [he1];exact hK _ hmem) hc
     have hnews:mP P (.load m a k) w=mP P (k v) w:=by simp only [mP,hcell]
     rw [hnews] at hg1
     obtain ⟨w',h1,h2,h3,h4,h5,h6⟩:=ih v _ K w _ _ _ hK hN hg1 he2
     exact ⟨w',by simp only [JO,hcell];exact h1,h2,by rw [hnews];exact h3,h4,by rw [hnews];exact h5,by rw [hnews];exact h6⟩
    ·exact absurd hg (by simp)
   ·exact absurd hg (by simp)
 | store m a v k ih =>
   intro ps K w x K' es hK hN hg he
   simp only [uN] at hg
   split at hg
   ·rename_i g o hpv hq
    split at hg
    ·rename_i u hc hfz
     have hmem:=IV hq
     rw [IM] at hg
     obtain ⟨⟨x1,K1,es1⟩,hg1,hg2⟩:=hg
     obtain ⟨rfl,rfl,rfl⟩:=hg2
     obtain ⟨he1,he2⟩:=he
     simp only at he1
     have hblk:w.heap[a.block]? = some o:=by rw [he1];exact hK _ hmem
     have hcell:w.cell? a=some u:=cell_in hblk hc
     have hfr:w.frozen? a=false:=by rw [frozen_in hblk];exact hfz
     have hnews:mP P (.store m a v k) w=mP P k (w.setCell a v):=rfl
     rw [hnews] at hg1
     have hset:(K.set (ps.headD 0) (g,putIn o a.off v)).map (·.1)=K.map (·.1):=by
      apply List.ext_getElem?
      intro j
      rw [I9,I9,Lp]
      by_cases hj:ps.headD 0=j
      ·subst hj
       rw [if_pos rfl,if_pos (IQ.1 hq).1,hq];rfl
      ·rw [if_neg hj]
     have hK1:bI (K.set (ps.headD 0) (g,putIn o a.off v)) (w.setCell a v):=by
      intro y hy
      rcases mem_set_cases hy with rfl | ⟨j,hj,hjy⟩
      ·simp only
       rw [<- he1];exact put_in hblk hc v
      ·obtain ⟨g', o'⟩ := y
       have hne:=nodup_get hN hjy hq hj
       have:=hK _ (IV hjy)
       rw [Kt _ _ _ _ om]
       exact this
     obtain ⟨w',h1,h2,h3,h4,h5,h6⟩:=ih _ _ (w.setCell a v) _ _ _ hK1 (by rw [hset];exact hN) hg1 he2
     have hsz:(w.setCell a v).heap.size=w.heap.size:=by simp
     refine ⟨w',?_,h2,by rw [hnews,h3,hset],?_,by grind,by rw [hnews];exact h6⟩
     ·cases v<;>simp only [plainV,Jf] at hpv<;>(simp only [JO,hcell,hfr,Jf,if_false];exact h1)
     ·rw [hset] at h4
      refine pG.trans (b:=w.setCell a v) ⟨rfl,rfl,rfl,by omega,fun b hb hnb=>?_⟩ h4
      apply Kt
      rintro rfl
      apply hnb
      rw [he1]
      exact IX.2 ⟨(g,o),hmem,rfl⟩
    ·exact absurd hg (by simp)
   ·exact absurd hg (by simp)
 | new o k ih =>
   intro ps K w x K' es hK hN hg he
   have hK1:bI (K++[(w.heap.size,o)]) { w with heap:=w.heap.push o}:=by
    intro y hy
    rcases KJ.1 hy with hy | hy
    ·have h1 := hK y hy
     have hlt:y.1<w.heap.size:=(Jp.1 h1).1
     rw [Jz,if_neg om];exact h1
    ·simp only [List.mem_singleton] at hy
     subst hy
     simp
   have hlt:∀ b∈K.map (·.1),b<w.heap.size:=by
    intro b hb
    obtain ⟨y,hy,rfl⟩:=IX.1 hb
    exact (Jp.1 (hK y hy)).1
   have hN1:((K++[(w.heap.size,o)]).map (·.1)).Nodup:=by grind
   obtain ⟨w',h1,h2,h3,h4,h5,h6⟩:=ih w.heap.size _ _ { w with heap:=w.heap.push o} _ _ _ hK1 hN1 hg he
   have hsz:({ w with heap:=w.heap.push o}:LX).heap.size=w.heap.size+1:=by simp
   rw [hsz] at h5
   refine ⟨w',by simp only [JO];exact h1,h2,by rw [h3];simp [mP],?_,?_,?_⟩
   ·refine ⟨h4.os, h4.tape, h4.output, by have := h4.size; rw [hsz] at this; omega, fun b hb hnb => ?_⟩
    rw [h4.block b om ?_]
    ·show (w.heap.push o)[b]? = _
     rw [Jz,if_neg om]
    ·rw [KL]
     intro hm
     rcases KJ.1 hm with hm | hm
     ·exact hnb hm
     ·simp at hm;omega
   ·intro b hb
    simp only [mP,List.mem_cons] at hb
    rcases hb with rfl | hb
    ·omega
    ·have:=h5 b hb;omega
   ·simp only [mP]
    refine List.nodup_cons.2 ⟨fun hm=>?_,h6⟩
    have:=h5 _ hm;omega
 | shape b k ih =>
   intro ps K w x K' es hK hN hg he
   simp only [uN] at hg
   split at hg
   ·rename_i g o hq
    split at hg
    ·rename_i s hs
     have hmem:=IV hq
     rw [IM] at hg
     obtain ⟨⟨x1,K1,es1⟩,hg1,hg2⟩:=hg
     obtain ⟨rfl,rfl,rfl⟩:=hg2
     obtain ⟨he1,he2⟩:=he
     simp only at he1
     have hsh:w.shape? b=some s:=shape_in (by rw [he1];exact hK _ hmem) hs
     have hnews:mP P (.shape b k) w=mP P (k (some s)) w:=by simp only [mP,hsh]
     rw [hnews] at hg1
     obtain ⟨w',h1,h2,h3,h4,h5,h6⟩:=ih (some s) _ K w _ _ _ hK hN hg1 he2
     exact ⟨w',by simp only [JO,hsh];exact h1,h2,by rw [hnews];exact h3,h4,by rw [hnews];exact h5,by rw [hnews];exact h6⟩
    ·exact absurd hg (by simp)
   ·exact absurd hg (by simp)
 | frozen a k ih =>
   intro ps K w x K' es hK hN hg he
   simp only [uN] at hg
   split at hg
   ·rename_i g o hq
    have hmem:=IV hq
    rw [IM] at hg
    obtain ⟨⟨x1,K1,es1⟩,hg1,hg2⟩:=hg
    obtain ⟨rfl,rfl,rfl⟩:=hg2
    obtain ⟨he1,he2⟩:=he
    simp only at he1
    have hfr:w.frozen? a=AO o a.off:=frozen_in (by rw [he1];exact hK _ hmem)
    have hnews:mP P (.frozen a k) w=mP P (k (AO o a.off)) w:=by simp only [mP,hfr]
    rw [hnews] at hg1
    obtain ⟨w',h1,h2,h3,h4,h5,h6⟩:=ih _ _ K w _ _ _ hK hN hg1 he2
    exact ⟨w',by simp only [JO,hfr];exact h1,h2,by rw [hnews];exact h3,h4,by rw [hnews];exact h5,by rw [hnews];exact h6⟩
   ·exact absurd hg (by simp)
 | program k ih =>
   intro ps K w x K' es hK hN hg he
   obtain ⟨w',h⟩:=ih P ps K w x K' es hK hN hg he
   exact ⟨w',h⟩
 | mark m k ih =>
   intro ps K w x K' es hK hN hg he
   obtain ⟨w',h⟩:=ih ps K w x K' es hK hN hg he
   exact ⟨w',h⟩
 | freeze a n k ih=>intro ps K w x K' es hK hN hg he;simp [uN] at hg
 | getObj r k ih=>intro ps K w x K' es hK hN hg he;simp [uN] at hg
 | setObj r o k ih=>intro ps K w x K' es hK hN hg he;simp [uN] at hg
 | choose q k ih=>intro ps K w x K' es hK hN hg he;simp [uN] at hg
 | sys c k ih=>intro ps K w x K' es hK hN hg he;simp [uN] at hg
 | halt x=>intro ps K w x K' es hK hN hg he;simp [uN] at hg
section
variable {P:LY} {ops:Array Me} {D:List Nat} {l:List (Nat × LW)} {a:Act} {w0:nN} {h:List (Nat × Obj)} {F0:LX→Prop}
variable {vals:(Nat→bT)→Nat→LW} {effs:(Nat→bT)→Nat→qJ} {fact:(Nat→bT)→Nat→LX→Prop}
def FT:Next->Option LW
 | .value v=>some v
 | .skip=>some LV
 | _=>none
def gG (ops : Array Me) (D : List Nat) (h : List (Nat × Obj)) (E : Nat -> qJ) (i : Nat) (ns : List Nat) : List (Nat × Obj) :=
 ns.map fun n=>match AY h E n with
  | some x=>yZ E ops.size (dep D i) n x
  | none=>(0,default)
def fM (ops:Array Me) (D:List Nat) (h:List (Nat × Obj)) (E:Nat->qJ) (i:Nat) (ns:List Nat):Bool :=
 (ns.all fun n=>(AY h E n).isSome&&okN ops D h E i n)&&decide ns.Nodup
def CY (ns:List Nat) (K:List (Nat × Obj)) (E:qJ):List (Nat × Obj) :=
 ((ns.zip K).map fun x=>(((E.puts.lookup x.1).getD x.2).1,((E.puts.lookup x.1).getD x.2).2))++E.news
theorem applyE_eq (ns:List Nat) (K:List (Nat × Obj)) (E:qJ):CY ns K E=((ns.zip K).map fun x=>(E.puts.lookup x.1).getD x.2)++E.news:=rfl
def F5 (ns:List Nat) (E:qJ):Bool:=E.puts.all fun x=>ns.contains x.1
theorem dL {F:LX->Prop} (hF:∀ w,F w):bZ T F w:=⟨fun _=>False,fun _ h=>h.elim,fun w' _=>hF w'⟩
theorem obl_run_at {o:Me} (_ho:ops[i]? = some o) (ns ps:List Nat) (ρ:Nat->bT) (es:List Nat->List (Nat × Nat)) (x:List Nat->Next)
 (hw:nD (vals ρ) o=true) (hn:fM ops D h (effs ρ) i ns=true)
 (hr:∀ z,uN P (execOp (eX ops D l (vals ρ) i) o) ps (gG ops D h (effs ρ) i ns) z=some (x z,CY ns (gG ops D h (effs ρ) i ns) (effs (dU ρ i { n:=z}) i),es z))
 (hx:∀ z,FT (x z)=some (vals (dU ρ i { n:=z}) i)) (hp:∀ z,F5 ns (effs (dU ρ i { n:=z}) i)=true)
 (he:∀ z,Eqs (es z)) (hf:∀ z w,fact (dU ρ i { n:=z}) i w) (T:Nat->Prop) (w:LX) (hG:iM ops D w0 h F0 effs fact i ρ T w) :
 if nD (vals ρ) o then opv P (execOp (eX ops D l (vals ρ) i) o) w (Bi ops D h vals effs fact i ρ T w) else Bi ops D h vals effs fact i ρ T w LV w:=by
 rw [if_pos hw]
 have hno:=hn
 unfold fM at hno
 rw [II,IP,decide_eq_true_eq] at hno
 obtain ⟨hno,hnd⟩:=hno
 have hbn:∀ n∈ns,∃ x,AY h (effs ρ) n=some x/\okN ops D h (effs ρ) i n=true:=by
  intro n hm
  have:=hno n hm
  rw [II] at this
  obtain ⟨x,hb⟩:=IK.1 this.1
  exact ⟨x,hb,this.2⟩
 have hK:bI (gG ops D h (effs ρ) i ns) w:=by
  intro y hy
  obtain ⟨n,hm,rfl⟩:=IX.1 hy
  obtain ⟨x,hb,hok⟩:=hbn n hm
  rw [hb]
  exact (hG.block n x hb hok).1
 have hKN:((gG ops D h (effs ρ) i ns).map (·.1)).Nodup:=by
  unfold gG
  rw [Lr]
  refine Lm.2 ?_
  refine List.Pairwise.imp_of_mem ?_ hnd
  intro n n' hm hm' hne
  obtain ⟨x,hb,hok⟩:=hbn n hm
  obtain ⟨x',hb',hok'⟩:=hbn n' hm'
  simp [*]
  exact hG.ne n n' x x' hne hb hb' hok hok'
 obtain ⟨w',h1,h2,h3,h4,h5,h6⟩:=uK _ _ _ w _ _ _ hK hKN (hr (mP P (execOp (eX ops D l (vals ρ) i) o) w)) (he _)
 generalize mP P (execOp (eX ops D l (vals ρ) i) o) w=z at *
 have hxv:=hx z
 have hlen:(gG ops D h (effs ρ) i ns).length=ns.length:=by unfold gG;simp
 have h3':=by
  rw [applyE_eq] at h3
  rw [KL] at h3
  exact List.append_inj h3 (by grind)
 have hnews:=h3'.2
 have hkn:∀ (k n:Nat) x,ns[k]? = some n->AY h (effs ρ) n=some x->(gG ops D h (effs ρ) i ns)[k]? = some (yZ (effs ρ) ops.size (dep D i) n x):=by
  intro k n x hk hb
  unfold gG
  simp [*]
 have hloc:∀ n∈ns,∀ x,AY h (effs ρ) n=some x->(((effs (dU ρ i { n:=z}) i).puts.lookup n).getD (yZ (effs ρ) ops.size (dep D i) n x)).1=(yZ (effs ρ) ops.size (dep D i) n x).1:=by
  intro n hm x hb
  obtain ⟨k,hk⟩:=IJ.1 hm
  have q:=congrArg (fun l:List Nat=>l[k]?) h3'.1
  simp only [I9,hkn k n x hk hb] at q
  rw [(Jt (z:=(n,yZ (effs ρ) ops.size (dep D i) n x))).2 ⟨hk,hkn k n x hk hb⟩] at q
  simpa using q
 have hzip:∀ n∈ns,∀ x,AY h (effs ρ) n=some x->w'.heap[(((effs (dU ρ i { n:=z}) i).puts.lookup n).getD (yZ (effs ρ) ops.size (dep D i) n x)).1]? = some (((effs (dU ρ i { n:=z}) i).puts.lookup n).getD (yZ (effs ρ) ops.size (dep D i) n x)).2:=by
  intro n hm x hb
  obtain ⟨k,hk⟩:=IJ.1 hm
  exact h2 (((effs (dU ρ i { n:=z}) i).puts.lookup n).getD (yZ (effs ρ) ops.size (dep D i) n x)) (by
   rw [applyE_eq]
   exact IJ.2 ⟨k,by grind⟩)
 have hputs:∀ n q,(n,q)∈(effs (dU ρ i { n:=z}) i).puts->n∈ns:=by
  intro n q hm
  have:=hp z
  unfold F5 at this
  rw [IP] at this
  have:=this _ hm
  simpa using this
 have fin:Bi ops D h vals effs fact i ρ T w (vals (dU ρ i { n:=z}) i) w':=by
  refine ⟨{ n:=z},rfl,?_,?_,?_,?_,dL (hf z)⟩
  ·refine ⟨h4.os, h4.tape, h4.output, h4.size, fun b hb hnX => ?_⟩
   by_cases hmem:b∈(gG ops D h (effs ρ) i ns).map (·.1)
   ·obtain ⟨y, hy, rfl⟩ := IX.1 hmem
    have hy0:=hK y hy
    obtain ⟨n,hm,rfl⟩:=IX.1 hy
    obtain ⟨x,hbq,hok⟩:=hbn n hm
    rw [hbq] at hy0 hnX ⊢
    have q1:=hzip n hm x hbq
    cases hl:(effs (dU ρ i { n:=z}) i).puts.lookup n with
    | none=>rw [hl] at q1;rw [hy0];exact q1
    | some y=>exact absurd ⟨n,y,x,mZ hl,hbq,rfl⟩ hnX
   ·exact h4.block b hb hmem
  ·intro n y hm
   have hmn:=hputs n y hm
   obtain ⟨x,hb,hok⟩:=hbn n hmn
   have q1:=hzip n hmn x hb
   have q2:=hloc n hmn x hb
   cases hl:(effs (dU ρ i { n:=z}) i).puts.lookup n with
   | none=>exact absurd hm (Am hl y)
   | some y' =>
     rw [hl] at q1 q2
     exact ⟨hok,x,hb,q1,Js q2⟩
  ·intro k b q hk
   have hmem:=IV hk
   refine ⟨?_,?_⟩
   ·apply h5
    rw [<- hnews]
    exact IX.2 ⟨(b,q),hmem,rfl⟩
   ·exact h2 (b,q) (by exact List.mem_append_right _ hmem)
  ·rw [hnews];exact h6
 unfold opv
 rw [h1]
 cases hx':x z with
 | value v=>rw [hx'] at hxv;simp only [FT,Jw.injEq] at hxv;simp only [hxv];exact fin
 | skip=>rw [hx'] at hxv;simp only [FT,Jw.injEq] at hxv;simp only [hxv];exact fin
 | _=>rw [hx'] at hxv;simp [FT] at hxv
theorem obl_run {o:Me} (ho:ops[i]? = some o) (ns ps:List Nat) (es:(Nat->bT)->List Nat->List (Nat × Nat)) (x:(Nat->bT)->List Nat->Next)
 (hw:∀ ρ,nD (vals ρ) o=true) (hn:∀ ρ,fM ops D h (effs ρ) i ns=true)
 (hr:∀ ρ z,uN P (execOp (eX ops D l (vals ρ) i) o) ps (gG ops D h (effs ρ) i ns) z=some (x ρ z,CY ns (gG ops D h (effs ρ) i ns) (effs (dU ρ i { n:=z}) i),es ρ z))
 (hx:∀ ρ z,FT (x ρ z)=some (vals (dU ρ i { n:=z}) i)) (hp:∀ ρ z,F5 ns (effs (dU ρ i { n:=z}) i)=true)
 (he:∀ ρ z,Eqs (es ρ z)) (hf:∀ ρ z w,fact (dU ρ i { n:=z}) i w):mW P ops D l w0 h F0 vals effs fact i:=by
 intro o' ho' ρ T w hG
 obtain rfl:o=o':=by grind
 exact obl_run_at ho ns ps ρ (es ρ) (x ρ) (hw ρ) (hn ρ) (hr ρ) (hx ρ) (hp ρ) (he ρ) (hf ρ) T w hG
theorem IE {o:Me} (ho:ops[i]? = some o) (hw:∀ ρ,nD (vals ρ) o=true)
 (hr:∀ ρ w,(∃ T,iM ops D w0 h F0 effs fact i ρ T w)->opv P (execOp (eX ops D l (vals ρ) i) o) w (fun v w'=>v=vals (dU ρ i {}) i/\Below w.heap.size w w'))
 (he:∀ ρ,effs (dU ρ i {}) i={}) (hf:∀ ρ w,fact (dU ρ i {}) i w):mW P ops D l w0 h F0 vals effs fact i:=by
 intro o' ho' ρ T w hG
 obtain rfl:o=o':=by grind
 rw [if_pos (hw ρ)]
 have key:∀ v w',(v=vals (dU ρ i {}) i/\Below w.heap.size w w')->Bi ops D h vals effs fact i ρ T w v w':=by
  rintro v w' ⟨rfl,hb⟩
  refine ⟨{},rfl,pG.vU hb,?_,?_,?_,dL (hf ρ)⟩
  ·rw [he ρ];intro n q hm;simp at hm
  ·rw [he ρ];intro k b q hk;simp at hk
  ·rw [he ρ];simp
 have:=hr ρ w ⟨T,hG⟩
 unfold opv at this ⊢
 split at this
 ·exact key _ _ this
 ·exact key _ _ this
 ·refine this.mono (fun e w'' he => ?_)
  cases e with
  | returned v=>exact key _ _ he
  | panicked c=>exact he
  | outgrown=>exact he
 ·exact this.elim
theorem obl_call {o:Me} (ho:ops[i]? = some o) (f:Md) (args:(Nat->bT)->Array LW) (hw:∀ ρ,nD (vals ρ) o=true)
 (hr:∀ ρ z,uN P (execOp (eX ops D l (vals ρ) i) o) [] [] z=some (.enter f (args ρ),[],[]))
 (hc:∀ ρ w,Calls P f (args ρ) w (fun e w'=>e=.returned (vals (dU ρ i {}) i)/\Below w.heap.size w w'))
 (he:∀ ρ,effs (dU ρ i {}) i={}) (hf:∀ ρ w,fact (dU ρ i {}) i w):mW P ops D l w0 h F0 vals effs fact i:=by
 refine IE ho hw (fun ρ w _=>?_) he hf
 obtain ⟨w',h1,_,_,h4,_,_⟩:=uK (execOp (eX ops D l (vals ρ) i) o) [] [] w _ _ _ (by intro y hy;simp at hy) (by simp) (hr ρ _) trivial
 have hb:Below w.heap.size w w':=⟨h4.os,h4.tape,h4.output,h4.size,fun k hk=>h4.block k hk (by simp)⟩
 unfold opv
 rw [h1]
 refine (hc ρ w').mono (fun e w'' he=>?_)
 obtain ⟨rfl,hb2⟩:=he
 exact ⟨rfl,hb.trans (hb2.mono hb.size)⟩
theorem obl_pure {o:Me} (ho:ops[i]? = some o) (hw:∀ ρ,nD (vals ρ) o=true)
 (hr:∀ ρ w,(execOp (eX ops D l (vals ρ) i) o).run P w=.ok (.value (vals (dU ρ i {}) i)) w)
 (he:∀ ρ,effs (dU ρ i {}) i={}) (hf:∀ ρ w,fact (dU ρ i {}) i w):mW P ops D l w0 h F0 vals effs fact i:=by
 refine IE ho hw (fun ρ w _=>?_) he hf
 unfold opv
 rw [hr ρ w]
 exact ⟨rfl,LM _ _⟩
end
end
variable {c x y:L6} {d:Bool}
section
def mask (D:List Nat) (i:Nat) (ρ:Nat->bT):Nat->bT:=fun j=>if j==i||dep D i j then ρ j else {}
theorem mask_congr {D:List Nat} {ρ':Nat->bT} (h:∀ j,j=i\/dep D i j=true->ρ j=ρ' j):mask D i ρ=mask D i ρ':=by
 funext j
 unfold mask
 by_cases hj:(j==i||dep D i j)=true
 ·rw [if_pos hj, if_pos hj]
  apply h
  simpa using hj
 ·rw [if_neg hj,if_neg hj]
def nb (ρ:Nat->bT) (i:Nat):Nat:=(ρ i).n.headD 0
def bV (ρ:Nat->bT) (i:Nat):Nat:=(ρ i).n.tail.headD 0
def grd (P : LY) : Sem α -> List Nat -> List (Nat × Obj) -> Option (α × List (Nat × Nat))
 | .pure a,_,_=>some (a,[])
 | .load _ a k, ps, K => match K[ps.headD 0]? with
   | some (g, o) => match Gs o a with
     | some v=>(grd P (k v) ps.tail K).map fun r=>(r.1,(a.block,g)::r.2)
     | none=>none
   | none=>none
 | .shape b k, ps, K => match K[ps.headD 0]? with
   | some (g, o) => match shapeIn o with
     | some s=>(grd P (k (some s)) ps.tail K).map fun r=>(r.1,(b,g)::r.2)
     | none=>none
   | none=>none
 | .frozen a k, ps, K => match K[ps.headD 0]? with
   | some (g,o)=>(grd P (k (AO o a.off)) ps.tail K).map fun r=>(r.1,(a.block,g)::r.2)
   | none=>none
 | .program k,ps,K=>grd P (k P) ps K
 | .mark _ k,ps,K=>grd P k ps K
 | _,_,_=>none
theorem grd_sound {P : LY} (s : Sem α) : ∀ (ps : List Nat) (K : List (Nat × Obj)) (w : LX) (x : α) (es : List (Nat × Nat)), bI K w -> grd P s ps K = some (x, es) -> Eqs es -> s.run P w = .ok x w := by
 induction s with
 | pure a =>
   intro ps K w x es hK hg he
   obtain ⟨rfl,rfl⟩:=hg
   rfl
 | load m a k ih =>
   intro ps K w x es hK hg he
   simp [grd] at hg
   split at hg
   ·rename_i g o hq
    split at hg
    ·rename_i v hc
     rw [IM] at hg
     obtain ⟨⟨x1,es1⟩,hg1,hg2⟩:=hg
     obtain ⟨rfl,rfl⟩:=hg2
     obtain ⟨he1,he2⟩:=he
     simp only at he1
     have hcell:=cell_in (by rw [he1];exact hK _ (IV hq)) hc
     simp [JO,hcell]
     exact ih v _ K w _ _ hK hg1 he2
    ·exact absurd hg (by simp)
   ·exact absurd hg (by simp)
 | shape b k ih =>
   intro ps K w x es hK hg he
   simp [grd] at hg
   split at hg
   ·rename_i g o hq
    split at hg
    ·rename_i s hs
     rw [IM] at hg
     obtain ⟨⟨x1,es1⟩,hg1,hg2⟩:=hg
     obtain ⟨rfl,rfl⟩:=hg2
     obtain ⟨he1,he2⟩:=he
     simp only at he1
     have hsh:w.shape? b=some s:=shape_in (by rw [he1];exact hK _ (IV hq)) hs
     simp [JO,hsh]
     exact ih (some s) _ K w _ _ hK hg1 he2
    ·exact absurd hg (by simp)
   ·exact absurd hg (by simp)
 | frozen a k ih =>
   intro ps K w x es hK hg he
   simp [grd] at hg
   split at hg
   ·rename_i g o hq
    rw [IM] at hg
    obtain ⟨⟨x1,es1⟩,hg1,hg2⟩:=hg
    obtain ⟨rfl,rfl⟩:=hg2
    obtain ⟨he1,he2⟩:=he
    simp only at he1
    have hfr:=frozen_in (by rw [he1];exact hK _ (IV hq))
    simp [JO,hfr]
    exact ih _ _ K w _ _ hK hg1 he2
   ·exact absurd hg (by simp)
 | program k ih=>intro ps K w x es hK hg he;exact ih P ps K w x es hK hg he
 | mark m k ih=>intro ps K w x es hK hg he;exact ih ps K w x es hK hg he
 | store m a v k ih=>intro ps K w x es hK hg he;simp [grd] at hg
 | new o k ih=>intro ps K w x es hK hg he;simp [grd] at hg
 | freeze a n k ih=>intro ps K w x es hK hg he;simp [grd] at hg
 | getObj r k ih=>intro ps K w x es hK hg he;simp [grd] at hg
 | setObj r o k ih=>intro ps K w x es hK hg he;simp [grd] at hg
 | choose q k ih=>intro ps K w x es hK hg he;simp [grd] at hg
 | sys c k ih=>intro ps K w x es hK hg he;simp [grd] at hg
 | halt x=>intro ps K w x es hK hg he;simp [grd] at hg
def Reg (P:LY) (id:Nat) (ops:Array Me) (draw:Bool) (n:Nat) (l:List (Nat × LW)) (w0:nN) (h:List (Nat × Obj)) (F:LX->Prop) (l':(Nat->bT)->List (Nat × LW)) (h':(Nat->bT)->List (Nat × Obj)):Prop :=
 ∀ Q A w,Fr n l A->St w0 h F w->(∀ ρ A' w',Fr n (l' ρ) A'->St w0 (h' ρ) F w'->Q .normal A' w')->(KA id ops draw).wp P Q A w
theorem St.dP {w0:nN} {h:List (Nat × Obj)} {F G:LX->Prop} (hS:St w0 h F w) (hFG:∀ w,F w->G w):St w0 h G w:=by
 refine ⟨hS.aS,hS.at_,hS.nodup,?_⟩
 obtain ⟨S,h1,h2⟩:=hS.facts
 exact ⟨S,h1,fun w' hw=>hFG _ (h2 w' hw)⟩
def drawOk (ops:Array Me) (D:List Nat) (n:Nat) (l:List (Nat × LW)) (keep:List Nat):Bool :=
 BN .any ops&&DOk ops D&&DZ ops n&&Fq ops D l&&keepOk ops l keep
def Ok (P:LY) (c:L6) (Q:L9->Act->LX->Prop) (n:Nat) (l:List (Nat × LW)) (w0:nN) (h:List (Nat × Obj)) (F:LX->Prop):Prop :=
 ∀ A w,Fr n l A->St w0 h F w->c.wp P Q A w
def mY (Q:Act->LX->Prop) (n:Nat) (l:List (Nat × LW)) (w0:nN) (h:List (Nat × Obj)) (F:LX->Prop):Prop:=∀ A w,Fr n l A->St w0 h F w->Q A w
section
variable {P:LY} {Q:L9→Act→LX→Prop} {n:Nat} {l:List (Nat × LW)} {w0:nN} {h:List (Nat × Obj)} {F:LX→Prop}
theorem aC (hx:Ok P x (Exit.then (y.wp P Q) Q) n l w0 h F):Ok P (.seq x y) Q n l w0 h F:=fun A w hf hs=>wp_seq (hx A w hf hs)
theorem ok_reg {id:Nat} {ops:Array Me} {l':(Nat->bT)->List (Nat × LW)} {h':(Nat->bT)->List (Nat × Obj)} (hr:Reg P id ops d n l w0 h F l' h') (hk:∀ ρ,mY (Q .normal) n (l' ρ) w0 (h' ρ) F) :
 Ok P (.region id ops d) Q n l w0 h F:=fun A w hf hs=>hr Q A w hf hs (fun ρ A' w' hf' hs'=>hk ρ A' w' hf' hs')
theorem ok_seq_reg {id:Nat} {ops:Array Me} {l':(Nat->bT)->List (Nat × LW)} {h':(Nat->bT)->List (Nat × Obj)} (hr:Reg P id ops d n l w0 h F l' h') (hk:∀ ρ,Ok P y Q n (l' ρ) w0 (h' ρ) F) :
 Ok P (.seq (.region id ops d) y) Q n l w0 h F:=aC (ok_reg hr hk)
theorem Fr.eval {A:Act} {t:Nat} {v:LW} (hf:Fr n l A) (hl:l.lookup t=some v):A.eval (.tmp t)=v:=by
 show A.tmps.getD t LV=v
 rw [IW,hf.slot t v hl];rfl
theorem ok_cond {t:Nat} {b:Bool} (hl:l.lookup t=some (.bool b)) (hx:b=true->Ok P x Q n l w0 h F) (hy:b=false->Ok P y Q n l w0 h F):Ok P (.cond (.tmp t) x y) Q n l w0 h F :=
 fun A w hf hs=>wp_cond_split (hf.eval hl) (fun e=>hx e A w hf hs) (fun e=>hy e A w hf hs)
theorem ok_yes {t:Nat} (hl:l.lookup t=some (.bool true)) (hx:Ok P x Q n l w0 h F):Ok P (.cond (.tmp t) x y) Q n l w0 h F :=
 fun A w hf hs=>wp_cond_true (hf.eval hl) (hx A w hf hs)
theorem ok_no {t:Nat} (hl:l.lookup t=some (.bool false)) (hy:Ok P y Q n l w0 h F):Ok P (.cond (.tmp t) x y) Q n l w0 h F :=
 fun A w hf hs=>wp_cond_false (hf.eval hl) (hy A w hf hs)
theorem aI (hk:mY (Q .normal) n l w0 h F):Ok P .skip Q n l w0 h F:=fun A w hf hs=>wp_skip (hk A w hf hs)
theorem bC (hk:mY (Q (.exit i)) n l w0 h F):Ok P (.exit i) Q n l w0 h F:=fun A w hf hs=>wp_exit (hk A w hf hs)
theorem aG (hk:mY (Q .ret) n l w0 h F):Ok P .ret Q n l w0 h F:=fun A w hf hs=>wp_ret (hk A w hf hs)
theorem aJ (hc:Ok P c (Ko i Q) n l w0 h F):Ok P (.block i c) Q n l w0 h F:=fun A w hf hs=>wp_block (hc A w hf hs)
theorem St.sub {h':List (Nat × Obj)} (hS:St w0 h F w) (hsub:JB h' h):St w0 h' F w :=
 ⟨hS.aS,fun x hx=>hS.at_ x (hsub.subset hx),hS.nodup.sublist (hsub.map _),by
  obtain ⟨S,h1,h2⟩:=hS.facts
  exact ⟨S,fun b hb=>⟨(h1 b hb).1,fun hm=>(h1 b hb).2 ((hsub.map _).subset hm)⟩,h2⟩⟩
theorem Fr.sub {A:Act} (hf:Fr n l A) (l':List (Nat × LW)) (hl:∀ x∈l',l.lookup x.1=some x.2):Fr n l' A :=
 ⟨hf.defers,hf.size,fun t v hv=>hf.slot t v (hl (t,v) (xM hv))⟩
theorem ok_forget (l':List (Nat × LW)) (h':List (Nat × Obj)) (hl:∀ x∈l',l.lookup x.1=some x.2) (hh:JB h' h) (hc:Ok P c Q n l' w0 h' F):Ok P c Q n l w0 h F :=
 fun A w hf hs=>hc A w (hf.sub l' hl) (hs.sub hh)
def Fj (l : List (Nat × LW)) : List ResultVar -> Sem (List LW)
 | []=>pure []
 | .tmp t :: r => do
   let vs <- Fj l r
   pure ((l.lookup t).getD LV::vs)
 | .cell a t :: r => do
   let v <- (do loadVar t (<- asAddr ((l.lookup a).getD LV)))
   let vs <- Fj l r
   pure (v::vs)
def resL (rs:Array ResultVar) (l:List (Nat × LW)):Sem LW:=do
 let vs <- Fj l rs.toList
 pure (match vs with | [v]=>v | vs=>.tuple vs.toArray)
def Hm (rs:Array ResultVar) (l:List (Nat × LW)):Bool:=rs.toList.all fun | .tmp t=>(l.lookup t).isSome | .cell a _=>(l.lookup a).isSome
theorem Fr.getD {A:Act} {t:Nat} (hf:Fr n l A) (hl:(l.lookup t).isSome=true):A.tmps.getD t LV=(l.lookup t).getD LV:=by
 obtain ⟨v,hv⟩:=IK.1 hl
 rw [IW,hf.slot t v hv,hv]
theorem resL_eq {fn:Func} {A:Act} (hf:Fr n l A) (hr:Hm fn.results l=true):results fn A.tmps=resL fn.results l:=by
 unfold results resL
 unfold Hm at hr
 rw [Array.mapM_eq_mapM_toList]
 generalize fn.results.toList=rs at *
 have key:∀ rs:List ResultVar,(rs.all fun | .tmp t=>(l.lookup t).isSome | .cell a _=>(l.lookup a).isSome)=true ->
  (rs.mapM fun | .tmp t=>(pure (A.tmps.getD t LV):Sem LW) | .cell a t=>do loadVar t (<- asAddr (A.tmps.getD a LV)))=Fj l rs:=by
  intro rs
  induction rs with
  | nil=>intro _;rfl
  | cons x rs ih =>
    intro hall
    rw [List.all_cons,II] at hall
    rw [List.mapM_cons,ih hall.2]
    cases x with
    | tmp t=>simp only [Fj,hf.getD hall.1,pure_bind]
    | cell a t=>simp only [Fj,hf.getD hall.1]
 have k:=key rs hr
 refine (congrArg (fun z:Sem (List LW)=>Functor.map List.toArray z >>= fun vs:Array LW=>(pure (if h:vs.size=1 then vs[0] else .tuple vs):Sem LW)) k).trans ?_
 rw [map_eq_pure_bind,bind_assoc]
 congr 1
 funext vs
 rw [pure_bind]
 rcases vs with _ | ⟨v,_ | ⟨u,vs⟩⟩
 ·simp
 ·simp
 ·simp
theorem meets_ret {fn:Func} {R:L8->LX->Prop} {v:LW} (ps:List Nat) (es:List (Nat × Nat)) (hr:Hm fn.results l=true) (hg:grd P (resL fn.results l) ps h=some (v,es)) (he:Eqs es)
 (hR:∀ w,St w0 h F w->R (.returned v) w):mY (bodyPost P fn R .ret) n l w0 h F:=by
 intro A w hf hs
 refine ⟨hf.defers,v,?_,hR w hs⟩
 rw [resL_eq hf hr]
 exact grd_sound _ ps h w v es (fun x hx=>(hs.at_ x hx).2) hg he
theorem Calls.of_ok {f:Md} {fn:Func} {args:Array LW} {R:L8->LX->Prop} (hf:P.funcs[f]? = some fn) (hb:fn.body=some c) (hn:fn.ntmps=n) (hl:(args.toList.zipIdx.map fun x=>(x.2,x.1))=l) (ha:args.size<=n)
 (hF:bZ (fun _=>False) F w) (h:Ok P c (bodyPost P fn R) n l ⟨w,[]⟩ [] F):Calls P f args w R:=by
 refine calls_of_wp hf hb (h _ w ?_ ?_)
 ·refine ⟨rfl, by grind, fun t v hv => ?_⟩
  have hm:=xM hv
  rw [<- hl] at hm
  obtain ⟨⟨u,k⟩,hx,he⟩:=IX.1 hm
  obtain ⟨rfl,rfl⟩:=he
  have h1:=J7.1 hx
  have h1':=by simpa using h1
  have hlt:=(Jp.1 h1').1
  rw [Ku hlt,h1']
 ·refine ⟨pG.refl _ _, by simp, by simp, ?_⟩
  obtain ⟨S,h1,h2⟩:=hF
  exact ⟨S,fun b hb=>⟨(h1 b hb).1,by simp⟩,h2⟩
theorem Calls.nZ {f:Md} {fn:Func} {args:Array LW} {R:L8->LX->Prop} (h0:List (Nat × Obj)) (hf:P.funcs[f]? = some fn) (hb:fn.body=some c) (hn:fn.ntmps=n) (hl:(args.toList.zipIdx.map fun x=>(x.2,x.1))=l) (ha:args.size<=n)
 (hK:∀ x∈h0,w.heap[x.1]? = some x.2) (hN:(h0.map (·.1)).Nodup) (hF:bZ (fun b=>b∈h0.map (·.1)) F w) (h:Ok P c (bodyPost P fn R) n l ⟨w,h0.map (·.1)⟩ h0 F):Calls P f args w R:=by
 refine calls_of_wp hf hb (h _ w ?_ ?_)
 ·refine ⟨rfl, by grind, fun t v hv => ?_⟩
  have hm:=xM hv
  rw [<- hl] at hm
  obtain ⟨⟨u,k⟩,hx,he⟩:=IX.1 hm
  obtain ⟨rfl,rfl⟩:=he
  have h1:=J7.1 hx
  have h1':=by simpa using h1
  have hlt:=(Jp.1 h1').1
  rw [Ku hlt,h1']
 ·exact ⟨pG.refl _ _,fun x hx=>⟨J6 (IX.2 ⟨x,hx,rfl⟩),hK x hx⟩,hN,hF⟩
theorem pG.aS (h:pG (fun b=>b∈([]:List Nat)) w w'):Below w.heap.size w w':=⟨h.os,h.tape,h.output,h.size,fun k hk=>h.block k hk (by simp)⟩
theorem St.dM (hS:St ⟨w,[]⟩ h F w'):Below w.heap.size w w':=hS.aS.aS
end
end
variable {k:Nat}
section
def Bf (id : Nat) : L6 -> Option (Array Me)
 | .region i ops _=>if i==id then some ops else none
 | .seq a b => match Bf id a with
   | some o=>some o
   | none=>Bf id b
 | .cond _ a b => match Bf id a with
   | some o=>some o
   | none=>Bf id b
 | .block _ c=>Bf id c
 | .loop c=>Bf id c
 | .scope c=>Bf id c
 | _=>none
def eP (f:Func) (id:Nat):Array Me:=((f.body.bind (Bf id)).getD #[])
def iR (ops:Array Me) (i:Nat):Me:=(ops[i]?).getD default
theorem lN {ops:Array Me} (h:(ops[i]?).isSome=true):ops[i]? = some (iR ops i):=by
 unfold iR
 obtain ⟨o,ho⟩:=IK.1 h
 rw [ho];rfl
def dup (l:List Nat):List (Nat × Nat):=l.map fun g=>(g,g)
theorem eqs_dup:∀ l,Eqs (dup l)
 | []=>trivial
 | _::l=>⟨rfl,eqs_dup l⟩
section
variable {P:LY} {ops:Array Me} {D:List Nat} {l:List (Nat × LW)} {w0:nN} {h:List (Nat × Obj)} {F0:LX→Prop}
variable {vals:(Nat→bT)→Nat→LW} {effs:(Nat→bT)→Nat→qJ}
def runChk (P : LY) (ops : Array Me) (D : List Nat) (l : List (Nat × LW)) (h : List (Nat × Obj)) (V : Nat -> LW) (E : Nat -> qJ) (E' : qJ) (i : Nat) (ns ps z : List Nat) : Option (Option LW × List (Nat × Obj) × List (Nat × Nat)) :=
 if (ops[i]?).isSome&&nD V (iR ops i)&&fM ops D h E i ns&&F5 ns E' then
  (uN P (execOp (eX ops D l V i) (iR ops i)) ps (gG ops D h E i ns) z).map fun r=>(FT r.1,r.2.1,r.2.2)
 else none
theorem o_run (i:Nat) (ns ps:List Nat) (gs:(Nat->bT)->List Nat->List Nat)
 (hc:∀ ρ z,runChk P ops D l h (vals ρ) (effs ρ) (effs (dU ρ i { n:=z}) i) i ns ps z=some (some (vals (dU ρ i { n:=z}) i),CY ns (gG ops D h (effs ρ) i ns) (effs (dU ρ i { n:=z}) i),dup (gs ρ z))) :
 mW P ops D l w0 h F0 vals effs (fun _ _ _=>True) i:=by
 have key:∀ ρ z,((ops[i]?).isSome=true/\nD (vals ρ) (iR ops i)=true/\fM ops D h (effs ρ) i ns=true/\F5 ns (effs (dU ρ i { n:=z}) i)=true) /\
  ∃ x,FT x=some (vals (dU ρ i { n:=z}) i)/\uN P (execOp (eX ops D l (vals ρ) i) (iR ops i)) ps (gG ops D h (effs ρ) i ns) z=some (x,CY ns (gG ops D h (effs ρ) i ns) (effs (dU ρ i { n:=z}) i),dup (gs ρ z)):=by
  intro ρ z
  have h1:=hc ρ z
  unfold runChk at h1
  split at h1
  ·rename_i hb
   simp only [II] at hb
   refine ⟨⟨hb.1.1.1,hb.1.1.2,hb.1.2,hb.2⟩,?_⟩
   rw [IM] at h1
   obtain ⟨⟨x,K,es⟩,h2,h3⟩:=h1
   simp at h3
   obtain ⟨h3,rfl,rfl⟩:=h3
   exact ⟨x,h3,h2⟩
  ·exact absurd h1 (by simp)
 have k0:=key (fun _=>{}) []
 refine obl_run (lN k0.1.1) ns ps (fun ρ z=>dup (gs ρ z)) (fun ρ z=>(key ρ z).2.choose) (fun ρ=>(key ρ []).1.2.1) (fun ρ=>(key ρ []).1.2.2.1) (fun ρ z=>(key ρ z).2.choose_spec.2) (fun ρ z=>(key ρ z).2.choose_spec.1) (fun ρ z=>(key ρ z).1.2.2.2) (fun ρ z=>eqs_dup _) (fun _ _ _=>trivial)
def rQ (P : LY) (ops : Array Me) (D : List Nat) (l : List (Nat × LW)) (V : Nat -> LW) (v : LW) (E' : qJ) (i : Nat) (z : List Nat) : Option (Next × List (Nat × Obj) × List (Nat × Nat) × LW × qJ) :=
 if (ops[i]?).isSome&&nD V (iR ops i) then
  (uN P (execOp (eX ops D l V i) (iR ops i)) [] [] z).map fun r=>(r.1,r.2.1,r.2.2,v,E')
 else none
theorem o_call (i:Nat) (f:Md) (args:(Nat->bT)->Array LW) (v:(Nat->bT)->LW)
 (hc:∀ ρ z,rQ P ops D l (vals ρ) (vals (dU ρ i {}) i) (effs (dU ρ i {}) i) i z=some (.enter f (args ρ),[],[],v ρ,{}))
 (hf:∀ ρ w,Calls P f (args ρ) w (fun e w'=>e=.returned (v ρ)/\Below w.heap.size w w')):mW P ops D l w0 h F0 vals effs (fun _ _ _=>True) i:=by
 have key:∀ ρ z,((ops[i]?).isSome=true/\nD (vals ρ) (iR ops i)=true)/\vals (dU ρ i {}) i=v ρ/\effs (dU ρ i {}) i={}/\uN P (execOp (eX ops D l (vals ρ) i) (iR ops i)) [] [] z=some (.enter f (args ρ),[],[]):=by
  intro ρ z
  have h1:=hc ρ z
  unfold rQ at h1
  split at h1
  ·rename_i hb
   simp only [II] at hb
   rw [IM] at h1
   obtain ⟨⟨x,K,es⟩,h2,h3⟩:=h1
   simp at h3
   obtain ⟨rfl,rfl,rfl,h4,h5⟩:=h3
   exact ⟨hb,h4,h5,h2⟩
  ·exact absurd h1 (by simp)
 refine obl_call (lN (key (fun _=>{}) []).1.1) f args (fun ρ=>(key ρ []).1.2) (fun ρ z=>(key ρ z).2.2.2) (fun ρ w=>?_) (fun ρ=>(key ρ []).2.2.1) (fun _ _=>trivial)
 rw [(key ρ []).2.1]
 exact hf ρ w
def binChk (ops : Array Me) (D : List Nat) (l : List (Nat × LW)) (V : Nat -> LW) (v : LW) (E' : qJ) (i : Nat) : Option (BinOp × LZ × LW × LW × LW × qJ) :=
 if (ops[i]?).isSome&&nD V (iR ops i) then
  match (iR ops i).op with
  | .binOp op t x y _=>some (op,t,eX ops D l V i x,eX ops D l V i y,v,E')
  | _=>none
 else none
theorem o_bin (i : Nat) (op : BinOp) (t : LZ) (a b v : (Nat -> bT) -> LW)
 (hc:∀ ρ,binChk ops D l (vals ρ) (vals (dU ρ i {}) i) (effs (dU ρ i {}) i) i=some (op,t,a ρ,b ρ,v ρ,{}))
 (hg:∀ ρ x y w,(eqGuard op t x y (a ρ) (b ρ)).run P w=.ok () w)
 (hf:∀ ρ w,(binOp op t (a ρ) (b ρ)).run P w=.ok (v ρ) w):mW P ops D l w0 h F0 vals effs (fun _ _ _=>True) i:=by
 have key:∀ ρ,((ops[i]?).isSome=true/\nD (vals ρ) (iR ops i)=true)/\∃ x y t',(iR ops i).op=.binOp op t x y t'/\eX ops D l (vals ρ) i x=a ρ/\eX ops D l (vals ρ) i y=b ρ/\vals (dU ρ i {}) i=v ρ/\effs (dU ρ i {}) i={}:=by
  intro ρ
  have h1:=hc ρ
  unfold binChk at h1
  split at h1
  ·rename_i hb
   simp only [II] at hb
   split at h1
   ·rename_i op' t' x y t'' ho
    simp at h1
    obtain ⟨rfl,rfl,h2,h3,h4,h5⟩:=h1
    exact ⟨hb,x,y,t'',ho,h2,h3,h4,h5⟩
   ·exact absurd h1 (by simp)
  ·exact absurd h1 (by simp)
 refine obl_pure (lN (key (fun _=>{})).1.1) (fun ρ=>(key ρ).1.2) (fun ρ w=>?_) (fun ρ=>by obtain ⟨_,x,y,t',_,_,_,_,h5⟩:=key ρ;exact h5) (fun _ _=>trivial)
 obtain ⟨_,x,y,t',h1,h2,h3,h4,_⟩:=key ρ
 rw [h4]
 unfold execOp
 rw [h1]
 simp [h2,h3]
 simp [*]
theorem o_as (i:Nat) (v v':(Nat->bT)->LW)
 (hc:∀ ρ z,rQ P ops D l (vals ρ) (vals (dU ρ i {}) i) (effs (dU ρ i {}) i) i z=some (.value (v ρ),[],[],v' ρ,{})) (he:∀ ρ,v ρ=v' ρ):mW P ops D l w0 h F0 vals effs (fun _ _ _=>True) i:=by
 have key:∀ ρ z,((ops[i]?).isSome=true/\nD (vals ρ) (iR ops i)=true)/\vals (dU ρ i {}) i=v' ρ/\effs (dU ρ i {}) i={}/\uN P (execOp (eX ops D l (vals ρ) i) (iR ops i)) [] [] z=some (.value (v ρ),[],[]):=by
  intro ρ z
  have h1:=hc ρ z
  unfold rQ at h1
  split at h1
  ·rename_i hb
   simp only [II] at hb
   rw [IM] at h1
   obtain ⟨⟨x,K,es⟩,h2,h3⟩:=h1
   simp at h3
   obtain ⟨rfl,rfl,rfl,h4,h5⟩:=h3
   exact ⟨hb,h4,h5,h2⟩
  ·exact absurd h1 (by simp)
 refine IE (lN (key (fun _=>{}) []).1.1) (fun ρ=>(key ρ []).1.2) (fun ρ w _=>?_) (fun ρ=>(key ρ []).2.2.1) (fun _ _=>trivial)
 obtain ⟨w',h1,_,_,h4,_,_⟩:=uK (execOp (eX ops D l (vals ρ) i) (iR ops i)) [] [] w _ _ _ (by intro y hy;simp at hy) (by simp) ((key ρ _).2.2.2) trivial
 unfold opv
 rw [h1]
 exact ⟨by rw [(key ρ []).2.1];exact he ρ,⟨h4.os,h4.tape,h4.output,h4.size,fun k hk=>h4.block k hk (by simp)⟩⟩
end
section
variable {P:LY} {Q:L9→Act→LX→Prop} {X:Act→LX→Prop} {n:Nat} {l:List (Nat × LW)} {w0:nN} {h:List (Nat × Obj)} {F:LX→Prop}
theorem ok_seq_r {id:Nat} {ops ops':Array Me} {l':(Nat->bT)->List (Nat × LW)} {h':(Nat->bT)->List (Nat × Obj)} (e:ops=ops') (hr:Reg P id ops' d n l w0 h F l' h') (hk:∀ ρ,Ok P y Q n (l' ρ) w0 (h' ρ) F) :
 Ok P (.seq (.region id ops d) y) Q n l w0 h F:=by subst e;exact ok_seq_reg hr hk
theorem ok_r {id:Nat} {ops ops':Array Me} {l':(Nat->bT)->List (Nat × LW)} {h':(Nat->bT)->List (Nat × Obj)} (e:ops=ops') (hr:Reg P id ops' d n l w0 h F l' h') (hk:∀ ρ,mY (Q .normal) n (l' ρ) w0 (h' ρ) F) :
 Ok P (.region id ops d) Q n l w0 h F:=by subst e;exact ok_reg hr hk
theorem aA (hk:Ok P y Q n l w0 h F):mY (Exit.then (y.wp P Q) Q .normal) n l w0 h F:=hk
theorem aB (hk:mY (Q .ret) n l w0 h F):mY (Exit.then X Q .ret) n l w0 h F:=hk
theorem aF (hk:mY (Q (.exit i)) n l w0 h F):mY (Exit.then X Q (.exit i)) n l w0 h F:=hk
theorem aH (hk:mY (Q .normal) n l w0 h F):mY (Ko i Q .normal) n l w0 h F:=hk
theorem aQ (hk:mY (Q .ret) n l w0 h F):mY (Ko i Q .ret) n l w0 h F:=hk
theorem aO (hk:mY (Q .normal) n l w0 h F):mY (Ko i Q (.exit i)) n l w0 h F:=by
 intro A w hf hs
 show (if i=i then _ else _)
 rw [if_pos rfl];exact hk A w hf hs
theorem mt_block_p (hne:j≠i) (hk:mY (Q (.exit j)) n l w0 h F):mY (Ko i Q (.exit j)) n l w0 h F:=by
 intro A w hf hs
 show (if j=i then _ else _)
 rw [if_neg hne];exact hk A w hf hs
theorem mt_end {fn:Func} {R:L8->LX->Prop} (hk:mY (bodyPost P fn R .ret) n l w0 h F):mY (bodyPost P fn R .normal) n l w0 h F:=hk
def Subl (l' l:List (Nat × LW)):Prop:=l'.map (fun x=>l.lookup x.1)=l'.map (fun x=>some x.2)
theorem Subl.get {l' l:List (Nat × LW)} (hs:Subl l' l):∀ x∈l',l.lookup x.1=some x.2:=by
 intro x hx
 obtain ⟨k,hk⟩:=IJ.1 hx
 have h1:=congrArg (fun z=>z[k]?) hs
 simp [I9,hk,Ju,Jw.injEq] at h1
 exact h1
theorem ok_drop (l':List (Nat × LW)) (h':List (Nat × Obj)) (hl:l'.map (fun x=>l.lookup x.1)=l'.map (fun x=>some x.2)) (hh:JB h' h) (hc:Ok P c Q n l' w0 h' F):Ok P c Q n l w0 h F:=ok_forget l' h' (Subl.get hl) hh hc
def OkR (P:LY) (c:L6) (Q:L9->Act->LX->Prop) (k n:Nat) (l:List (Nat × LW)) (w0:nN) (h:List (Nat × Obj)) (F:LX->Prop):Prop:=∀ A w,Fr n l A->St w0 h F w->LH P c Q k A w
theorem lD (k:Nat) (hc:OkR P c Q k n l w0 h F):Ok P (.loop c) Q n l w0 h F:=fun A w hf hs=>wp_loop_rounds k (hc A w hf hs)
theorem fD (hc:Ok P c (Exit.then (LH P c Q k) Q) n l w0 h F):OkR P c Q (k+1) n l w0 h F:=fun A w hf hs=>hc A w hf hs
theorem mM (hc:OkR P c Q k n l w0 h F):mY (Exit.then (LH P c Q k) Q .normal) n l w0 h F:=hc
def Next1 {σ:Type} (n:Nat) (w0:nN) (F:LX->Prop) (L:σ->List (Nat × LW)) (H:σ->List (Nat × Obj)) (m:σ->Nat) (R:σ->Prop) (k:Nat) (A:Act) (w:LX):Prop:=∃ s,m s<k/\R s/\Fr n (L s) A/\St w0 (H s) F w
theorem ok_loop {σ:Type} (L:σ->List (Nat × LW)) (H:σ->List (Nat × Obj)) (m:σ->Nat) (R:σ->Prop) (s0:σ) (hR:R s0) (hl:(L s0).map (fun x=>l.lookup x.1)=(L s0).map (fun x=>some x.2)) (hh:JB (H s0) h)
 (round:∀ s,R s->Ok P c (Exit.then (Next1 n w0 F L H m R (m s)) Q) n (L s) w0 (H s) F):Ok P (.loop c) Q n l w0 h F:=by
 intro A w hf hs
 refine wp_loop_ghost (fun k A w=>∃ s,m s=k/\R s/\Fr n (L s) A/\St w0 (H s) F w) (m s0) ⟨s0,rfl,hR,hf.sub _ (Subl.get hl),hs.sub hh⟩ ?_
 rintro k A w ⟨s,rfl,h1,h2,h3⟩
 refine Code.wp_mono ?_ (round s h1 A w h2 h3)
 intro e A' w' hq
 cases e with
 | normal =>
   obtain ⟨s',q1,q2,q3,q4⟩:=hq
   exact ⟨m s',q1,s',rfl,q2,q3,q4⟩
 | _=>exact hq
theorem mt_round {σ:Type} {L:σ->List (Nat × LW)} {H:σ->List (Nat × Obj)} {m:σ->Nat} {R:σ->Prop} (s:σ) (hm:m s<k) (hR:R s) (hl:(L s).map (fun x=>l.lookup x.1)=(L s).map (fun x=>some x.2)) (hh:JB (H s) h) :
 mY (Exit.then (Next1 n w0 F L H m R k) Q .normal) n l w0 h F:=fun _ _ hf hs=>⟨s,hm,hR,hf.sub _ (Subl.get hl),hs.sub hh⟩
end
abbrev pt (g:Nat):LW:=.pointer (some ⟨g,0,none⟩)
end
variable {k:Mc}
section
section
variable {P:LY} {ops:Array Me} {D:List Nat} {l:List (Nat × LW)} {w0:nN} {h:List (Nat × Obj)} {F0:LX→Prop}
variable {vals:(Nat→bT)→Nat→LW} {effs:(Nat→bT)→Nat→qJ}
def Ah (ops:Array Me) (V:Nat->LW) (v:LW) (E':qJ) (i:Nat):Option (LW × qJ) :=
 if (ops[i]?).isSome&&nD V (iR ops i) then some (v,E') else none
theorem Aw {v':LW} {E:qJ} {V:Nat->LW} {v:LW} {E':qJ} (h1:Ah ops V v E' i=some (v',E)):((ops[i]?).isSome=true/\nD V (iR ops i)=true)/\v=v'/\E'=E:=by
 unfold Ah at h1
 split at h1
 ·rename_i hb
  simp only [II] at hb
  simp at h1
  exact ⟨hb,h1⟩
 ·exact absurd h1 (by simp)
theorem o_sem (i:Nat) (s:(Nat->bT)->Sem Next) (v:(Nat->bT)->LW) (hc:∀ ρ,Ah ops (vals ρ) (vals (dU ρ i {}) i) (effs (dU ρ i {}) i) i=some (v ρ,{}))
 (hx:∀ ρ,execOp (eX ops D l (vals ρ) i) (iR ops i)=s ρ) (hr:∀ ρ w,(s ρ).run P w=.ok (.value (v ρ)) w):mW P ops D l w0 h F0 vals effs (fun _ _ _=>True) i:=by
 refine obl_pure (lN (Aw (hc (fun _=>{}))).1.1) (fun ρ=>(Aw (hc ρ)).1.2) (fun ρ w=>?_) (fun ρ=>(Aw (hc ρ)).2.2) (fun _ _=>trivial)
 rw [(Aw (hc ρ)).2.1,hx ρ]
 exact hr ρ w
theorem run_idx_arr {t elem:LZ} {len s off:Nat} {n:Int} (hu:P.underlying t=some (.array len elem)) (hs:∀ w,(sizeOf elem).run P w=.ok s w) (h0:0<=n) (h1:n<len) (w:LX) :
 (do pure (IL (<- Jm t (.pointer (some ⟨g,off,none⟩)) (.int k n))):Sem Next).run P w=.ok (.value (.pointer (some ⟨g,off+n.toNat*s,none⟩))) w:=by
 have hadd:(KR ⟨g,off,none⟩ (n.toNat*s))=⟨g,off+n.toNat*s,none⟩:=by
  unfold KR
  split
  ·rename_i e;rw [e,KH]
  ·rfl
 simp [Jm,asIntOf,Jq,run_underlying hu,h0,h1,hs,hadd]
theorem BC {t elem:LZ} {len cap s off:Nat} {n:Int} (hu:P.underlying t=some (.slice elem)) (hs:∀ w,(sizeOf elem).run P w=.ok s w) (h0:0<=n) (h1:n<len) (w:LX) :
 (do pure (IL (<- Jm t (.slice (some ⟨g,off,none⟩) len cap) (.int k n))):Sem Next).run P w=.ok (.value (.pointer (some ⟨g,off+n.toNat*s,none⟩))) w:=by
 have hadd:(KR ⟨g,off,none⟩ (n.toNat*s))=⟨g,off+n.toNat*s,none⟩:=by
  unfold KR
  split
  ·rename_i e;rw [e,KH]
  ·rfl
 simp [Jm,asIntOf,run_underlying hu,h0,h1,hs,hadd]
theorem bK {t elem:LZ} {len:Nat} {n:Int} (hu:P.underlying t=some (.array len elem)) (hs:∀ w,(sizeOf elem).run P w=.ok 1 w) (hi:n=(i:Int)/\i<len) (w:LX) :
 (do pure (IL (<- Jm t (.pointer (some ⟨g,0,none⟩)) (.int k n))):Sem Next).run P w=.ok (.value (.pointer (some ⟨g,i,none⟩))) w:=by
 rw [run_idx_arr hu hs om om w]
 simp
def ldChk (ops : Array Me) (D : List Nat) (l : List (Nat × LW)) (h : List (Nat × Obj)) (V : Nat -> LW) (E : Nat -> qJ) (v : LW) (E' : qJ) (i n : Nat) : Option (LZ × LW × List (Nat × Obj) × LW × qJ) :=
 if (ops[i]?).isSome&&nD V (iR ops i)&&fM ops D h E i [n] then
  match (iR ops i).op with
  | .load t a=>some (t,eX ops D l V i a,gG ops D h E i [n],v,E')
  | _=>none
 else none
theorem o_ld (i n : Nat) (t : LZ) (g off : (Nat -> bT) -> Nat) (C : (Nat -> bT) -> Array LW) (T : LZ) (fr : Nat × Nat) (v : (Nat -> bT) -> LW)
 (hc:∀ ρ,ldChk ops D l h (vals ρ) (effs ρ) (vals (dU ρ i {}) i) (effs (dU ρ i {}) i) i n=some (t,.pointer (some ⟨g ρ,off ρ,none⟩),[(g ρ,.cells (C ρ) T fr)],v ρ,{}))
 (ha:∀ w,(isAgg t).run P w=.ok false w) (hg:∀ ρ,(C ρ)[off ρ]? = some (v ρ)):mW P ops D l w0 h F0 vals effs (fun _ _ _=>True) i:=by
 have key:∀ ρ,((ops[i]?).isSome=true/\nD (vals ρ) (iR ops i)=true/\fM ops D h (effs ρ) i [n]=true)/\∃ a,(iR ops i).op=.load t a/\eX ops D l (vals ρ) i a=.pointer (some ⟨g ρ,off ρ,none⟩)/\gG ops D h (effs ρ) i [n]=[(g ρ,.cells (C ρ) T fr)]/\vals (dU ρ i {}) i=v ρ/\effs (dU ρ i {}) i={}:=by
  intro ρ
  have h1:=hc ρ
  unfold ldChk at h1
  split at h1
  ·rename_i hb
   simp only [II] at hb
   split at h1
   ·rename_i t' a ho
    simp at h1
    obtain ⟨rfl,h2,h3,h4,h5⟩:=h1
    exact ⟨⟨hb.1.1,hb.1.2,hb.2⟩,a,ho,h2,h3,h4,h5⟩
   ·exact absurd h1 (by simp)
  ·exact absurd h1 (by simp)
 refine IE (lN (key (fun _=>{})).1.1) (fun ρ=>(key ρ).1.2.1) (fun ρ w hG=>?_) (fun ρ=>(key ρ).2.choose_spec.2.2.2.2) (fun _ _=>trivial)
 obtain ⟨T',hG⟩:=hG
 obtain ⟨⟨_,_,hn⟩,a,h1,h2,h3,h4,_⟩:=key ρ
 have hblk:w.heap[g ρ]? = some (.cells (C ρ) T fr):=by
  unfold fM at hn
  rw [II,IP] at hn
  have hn1:=hn.1 n (by simp)
  rw [II] at hn1
  obtain ⟨q,hb⟩:=IK.1 hn1.1
  have:=(hG.block n q hb hn1.2).1
  unfold gG at h3
  simp [*] at h3
  rw [h3] at this
  exact this
 have hcell:w.cell? ⟨g ρ,off ρ,none⟩=some (v ρ):=by
  unfold Jo
  simp [hblk]
  exact hg ρ
 unfold opv execOp
 rw [h1]
 simp [h2]
 simp [Jh,Jq,loadVar,IY,Jn,Ja,ha,Jf,if_false,load,JO,hcell]
 rw [h4]
 exact ⟨rfl,LM _ _⟩
def stChk (ops : Array Me) (D : List Nat) (l : List (Nat × LW)) (h : List (Nat × Obj)) (V : Nat -> LW) (E : Nat -> qJ) (v : LW) (E' : qJ) (i n : Nat) : Option (LZ × LW × LW × List (Nat × Obj) × LW × qJ) :=
 if (ops[i]?).isSome&&nD V (iR ops i)&&fM ops D h E i [n] then
  match (iR ops i).op with
  | .store t a x=>some (t,eX ops D l V i a,eX ops D l V i x,gG ops D h E i [n],v,E')
  | _=>none
 else none
theorem o_st (i n : Nat) (t : LZ) (g off : (Nat -> bT) -> Nat) (C C' : (Nat -> bT) -> Array LW) (T : LZ) (x : (Nat -> bT) -> LW)
 (hc:∀ ρ,stChk ops D l h (vals ρ) (effs ρ) (vals (dU ρ i {}) i) (effs (dU ρ i {}) i) i n=some (t,.pointer (some ⟨g ρ,off ρ,none⟩),x ρ,[(g ρ,.cells (C ρ) T (0,0))],LV,{ puts:=[(n,g ρ,.cells (C' ρ) T (0,0))]}))
 (hs:∀ w,(sizeOf t).run P w=.ok 1 w) (hp:∀ ρ,plainV (x ρ)=true) (hlt:∀ ρ,off ρ<(C ρ).size) (hC:∀ ρ,(C ρ).setIfInBounds (off ρ) (x ρ)=C' ρ):mW P ops D l w0 h F0 vals effs (fun _ _ _=>True) i:=by
 have key:∀ ρ,((ops[i]?).isSome=true/\nD (vals ρ) (iR ops i)=true/\fM ops D h (effs ρ) i [n]=true)/\∃ a y,(iR ops i).op=.store t a y/\eX ops D l (vals ρ) i a=.pointer (some ⟨g ρ,off ρ,none⟩)/\eX ops D l (vals ρ) i y=x ρ/\gG ops D h (effs ρ) i [n]=[(g ρ,.cells (C ρ) T (0,0))]/\vals (dU ρ i {}) i=LV/\effs (dU ρ i {}) i={ puts:=[(n,g ρ,.cells (C' ρ) T (0,0))]}:=by
  intro ρ
  have h1:=hc ρ
  unfold stChk at h1
  split at h1
  ·rename_i hb
   simp only [II] at hb
   split at h1
   ·rename_i t' a y ho
    simp at h1
    obtain ⟨rfl,h2,h3,h4,h5,h6⟩:=h1
    exact ⟨⟨hb.1.1,hb.1.2,hb.2⟩,a,y,ho,h2,h3,h4,h5,h6⟩
   ·exact absurd h1 (by simp)
  ·exact absurd h1 (by simp)
 intro o ho ρ T' w hG
 obtain ⟨⟨hsome,hwant,hn⟩,a,y,h1,h2,h3,h4,h5,h6⟩:=key ρ
 have hoe:=lN hsome
 rw [ho] at hoe
 obtain rfl:o=iR ops i:=by grind
 rw [if_pos hwant]
 unfold fM at hn
 rw [II,IP] at hn
 have hn1:=hn.1 n (by simp)
 rw [II] at hn1
 obtain ⟨q,hb⟩:=IK.1 hn1.1
 have hblk0:=(hG.block n q hb hn1.2).1
 unfold gG at h4
 simp [*] at h4
 rw [h4] at hblk0
 have hcell:w.cell? ⟨g ρ,off ρ,none⟩=some ((C ρ)[off ρ]'(hlt ρ)):=by
  unfold Jo
  simp only [hblk0]
  simp
 have hfr:w.frozen? ⟨g ρ,off ρ,none⟩=false:=by
  unfold World.frozen?
  simp only [hblk0]
  simp
 have hsz:(x ρ).cells.toList=[x ρ]:=by
  have:=hp ρ
  cases hx:x ρ<;>rw [hx] at this<;>first | rfl | (simp [plainV] at this;done)
 have hsz2:(x ρ).cells.size=1:=by rw [<- KX,hsz];rfl
 have hrun:(execOp (eX ops D l (vals ρ) i) (iR ops i)).run P w=.ok .skip (w.setCell ⟨g ρ,off ρ,none⟩ (x ρ)):=by
  unfold execOp
  rw [h1]
  simp [*]
  have hpv:=hp ρ
  simp only [Instr.storeAt,Jq,storeVar,IY,Jn,Ja,hs,hsz,hsz2]
  rw [if_neg om]
  have hsu:(Sem.store .plain ⟨g ρ,off ρ,none⟩ (x ρ) (.pure ()):Sem Unit).run P w=.ok () (w.setCell ⟨g ρ,off ρ,none⟩ (x ρ)):=by
   cases hx:x ρ<;>rw [hx] at hpv<;>first | (simp [plainV] at hpv;done) | (simp only [JO,hcell,hfr,Jf,if_false])
  have hsc:(storeCells ⟨g ρ,off ρ,none⟩ [x ρ]).run P w=.ok () (w.setCell ⟨g ρ,off ρ,none⟩ (x ρ)):=by
   simp only [IY,storeCells,store,KR,if_true,hsu,Ja,Jn]
  rw [hsc]
  rfl
 unfold opv
 rw [hrun]
 refine ⟨{},h5.symm,?_,?_,?_,?_,dL (fun _=>trivial)⟩
 ·refine ⟨rfl, rfl, rfl, by simp, fun k hk hX => ?_⟩
  apply Kt
  rintro rfl
  exact hX ⟨n,_,q,by rw [h6];exact Jk,hb,by grind⟩
 ·rw [h6]
  intro n' o' hm
  simp at hm
  obtain ⟨rfl,rfl⟩:=hm
  refine ⟨hn1.2,q,hb,?_,?_⟩
  ·have hp' := put_in (a := ⟨g ρ, off ρ, none⟩) hblk0 (u := (C ρ)[off ρ]'(hlt ρ)) (by simp [Gs, hlt ρ]) (x ρ)
   simp only [putIn,hC ρ] at hp'
   simpa using hp'
  ·left;rw [h4];simp
 ·rw [h6];intro k b' q' hk;simp at hk
 ·rw [h6];simp
end
end
variable {a b c d:Int}
def wd (A:Nat) (i:Nat):Int:=((A / 18446744073709551616^i%18446744073709551616:Nat):Int)
abbrev U (A:Nat):LW:=.agg #[.int .u64 (wd A 0),.int .u64 (wd A 1),.int .u64 (wd A 2),.int .u64 (wd A 3)]
theorem wP (A i:Nat):0<=wd A i:=by unfold wd;omega
theorem wd_lt (A i:Nat):wd A i<18446744073709551616:=by unfold wd;omega
def M:Nat:=115792089237316195423570985008687907853269984665640564039457584007913129639936
theorem wZ:M=115792089237316195423570985008687907853269984665640564039457584007913129639936:=rfl
theorem wd0 (A:Nat):wd A 0=((A%18446744073709551616:Nat):Int):=by unfold wd;simp
theorem wd1 (A:Nat):wd A 1=((A / 18446744073709551616%18446744073709551616:Nat):Int):=by unfold wd;simp
theorem wd2 (A:Nat):wd A 2=((A / 340282366920938463463374607431768211456%18446744073709551616:Nat):Int):=by unfold wd;simp
theorem wd3 (A:Nat):wd A 3=((A / 6277101735386680763835789423207666416102355444464034512896%18446744073709551616:Nat):Int):=by unfold wd;simp
theorem uM (A:Nat) (h:A<M):(A:Int)=wd A 0+18446744073709551616*wd A 1+340282366920938463463374607431768211456*wd A 2+6277101735386680763835789423207666416102355444464034512896*wd A 3:=by
 rw [wd0,wd1,wd2,wd3];rw [wZ] at h;omega
def ofW (a b c d:Int):Nat:=(a+18446744073709551616*b+340282366920938463463374607431768211456*c+6277101735386680763835789423207666416102355444464034512896*d).toNat
def jH (x:Int):Prop:=0<=x/\x<18446744073709551616
theorem dA (A i:Nat):jH (wd A i):=⟨wP A i,wd_lt A i⟩
theorem ofW_lt (ha:jH a) (hb:jH b) (hc:jH c) (hd:jH d):ofW a b c d<M:=by
 unfold ofW jH M at *;omega
theorem ofW_sum (ha:jH a) (hb:jH b) (hc:jH c) (hd:jH d):(ofW a b c d:Int)=a+18446744073709551616*b+340282366920938463463374607431768211456*c+6277101735386680763835789423207666416102355444464034512896*d:=by
 unfold ofW jH at *;omega
theorem wd_of_sum (N:Nat) (ha:jH a) (hb:jH b) (hc:jH c) (hd:jH d) (h:(N:Int)=a+18446744073709551616*b+340282366920938463463374607431768211456*c+6277101735386680763835789423207666416102355444464034512896*d):a=wd N 0/\b=wd N 1/\c=wd N 2/\d=wd N 3:=by
 rw [wd0,wd1,wd2,wd3]
 unfold jH at *
 refine ⟨?_,?_,?_,?_⟩<;>omega
theorem Cj (N:Nat) (ha:jH a) (hb:jH b) (hc:jH c) (hd:jH d) (h:(N:Int)=a+18446744073709551616*b+340282366920938463463374607431768211456*c+6277101735386680763835789423207666416102355444464034512896*d):KW #[.int .u64 a,.int .u64 b,.int .u64 c,.int .u64 d]=U N:=by
 obtain ⟨rfl,rfl,rfl,rfl⟩:=wd_of_sum N ha hb hc hd h;rfl
def pF (A B:Nat):Int:=if A<B then -1 else if B<A then 1 else 0
theorem cmpN_gt {A B:Nat} (h:B<A):pF A B=1:=by unfold pF;rw [if_neg om,if_pos h]
theorem cmpN_of {A B:Nat} {n:Int} (h1:A<B->n= -1) (h2:B<A->n=1) (h3:A=B->n=0):n=pF A B:=by
 unfold pF;split
 ·exact h1 ‹_›
 ·split
  ·exact h2 ‹_›
  ·exact h3 om
variable {C:Array LW}
def DD (A i:Nat):Int:=((A / 256^(31-i)%256:Nat):Int)
def hB (A:Nat):Array LW:=((Jd 32).map fun i=>JV .u8 (DD A i)).toArray
theorem vY (A:Nat):(hB A).size=32:=by simp [hB]
theorem hB_get (A i:Nat) (h:i<32):(hB A)[i]? = some (.int .u8 (DD A i)):=by simp [hB,h]
theorem hB_ext {A:Nat} (hC:C.size=32) (h:∀ j,j<32->C[j]? = some (.int .u8 (DD A j))):C=hB A:=by
 apply Le
 intro i
 by_cases hi:i<32
 ·rw [h i hi,hB_get A i hi]
 ·rw [I5 om,I5 (by rw [vY];omega)]
theorem Az (A i:Nat):0<=DD A i:=by unfold DD;omega
theorem byt_lt (A i:Nat):DD A i<256:=by unfold DD;omega
theorem hB_one (A:Nat):(hB A).all (·.oneCell')=true:=by
 simp [hB,Value.oneCell']
theorem wd_byte (A q s:Nat) (hs:s+8<=64):wd A q / 2^s%256=((A / 18446744073709551616^q / 2^s%256:Nat):Int):=by
 unfold wd
 generalize A / 18446744073709551616^q=x
 have h1:(18446744073709551616:Nat)=2^s*2^(64-s):=by rw [<- LJ,show s+(64-s)=64 by omega]
 have h2:x%18446744073709551616 / 2^s=x / 2^s%2^(64-s):=by rw [h1,Nat.mod_mul_right_div_self]
 have h3:x / 2^s%2^(64-s)%256=x / 2^s%256:=Nat.mod_mod_of_dvd _ (by
  refine ⟨2^(64-s-8),?_⟩
  rw [show (256:Nat)=2^8 from rfl,<- LJ,show 8+(64-s-8)=64-s by omega])
 have e:((x%18446744073709551616:Nat):Int) / 2^s%256=((x%18446744073709551616 / 2^s%256:Nat):Int):=by
  simp
 rw [e,h2,h3]
theorem pow_split (q r:Nat) (hr:r<8):256^(8*q+7-r)=18446744073709551616^q*2^(56-r*8):=by
 rw [show (18446744073709551616:Nat)=2^64 from rfl,show (256:Nat)=2^8 from rfl,<- Nat.pow_mul,<- Nat.pow_mul,<- LJ]
 congr 1;omega
theorem byt_wd (A q k:Nat) (hk:k<32) (hq:k / 8+q=3):wd A q / 2^(56-k%8*8)%256=DD A k:=by
 rw [wd_byte A q _ om]
 unfold DD
 have e:31-k=8*q+7-k%8:=by omega
 rw [e,pow_split q (k%8) om,JC]
theorem byt_wd' (A q k:Nat) (hk:k<32) (hq:k / 8+q=3):wd A q / 2^(8*((31-k)%8))%256=DD A k:=by
 rw [<- byt_wd A q k hk hq];congr 3;omega
theorem or_add (a b s:Nat) (hb:b<2^s):a*2^s|||b=a*2^s+b:=by
 rw [Nat.mul_comm];exact (Nat.two_pow_add_eq_or_of_lt hb a).symm
theorem Dl (a b:Int) (s:Nat) (ha:0<=a) (hb:0<=b) (hb2:b<2^s) (hs:a*2^s+b<18446744073709551616):bits .or .u64 (a*2^s) b=a*2^s+b:=by
 obtain ⟨a,rfl⟩:=Jg ha
 obtain ⟨b,rfl⟩:=Jg hb
 have e:(a:Int)*2^s=((a*2^s:Nat):Int):=by simp
 rw [e] at hs ⊢
 have hb3:b<2^s:=by
  have:((b:Nat):Int)<((2^s:Nat):Int):=by simpa using hb2
  omega
 rw [bits_or_u64_nat _ _ om om,or_add a b s hb3]
 simp
theorem Iy (h0:0<=a) (h1:a<18446744073709551616):JI.wrap a=a:=IntWalk.u64_in a ⟨h0,by omega⟩
def left (q k:Nat):Nat:=64-8*min 8 (k-8*(3-q))
def pre (A q k:Nat):Int:=wd A q / 2^left q k
def top (A q k:Nat):Int:=wd A q / 2^left q k*2^left q k
theorem left_zero (q k:Nat) (h:k<=8*(3-q)):left q k=64:=by unfold left;omega
theorem left_full (q:Nat) (_h:q<=3):left q 32=0:=by unfold left;omega
theorem wd_div64 (A q:Nat):wd A q / 2^64=0:=by have:=wP A q;have:=wd_lt A q;omega
theorem Ff (A q k:Nat) (h:k<=8*(3-q)):pre A q k=0:=by unfold pre;rw [left_zero q k h];exact wd_div64 A q
theorem Fe (A q k:Nat) (h:k<=8*(3-q)):top A q k=0:=by unfold top;rw [left_zero q k h,wd_div64];rfl
theorem pre_end (A q:Nat) (h:q<=3):pre A q 32=wd A q:=by unfold pre;rw [left_full q h];simp
theorem top_end (A q:Nat) (h:q<=3):top A q 32=wd A q:=by unfold top;rw [left_full q h];simp
theorem left_other (q k:Nat) (hq:q<=3) (h:k / 8+q≠3):left q (k+1)=left q k:=by unfold left;omega
theorem qO (A q k:Nat) (hq:q<=3) (h:k / 8+q≠3):pre A q (k+1)=pre A q k:=by unfold pre;rw [left_other q k hq h]
theorem qQ (A q k:Nat) (hq:q<=3) (h:k / 8+q≠3):top A q (k+1)=top A q k:=by unfold top;rw [left_other q k hq h]
theorem left_step (q k:Nat) (h:k / 8+q=3):left q k=64-k%8*8/\left q (k+1)=56-k%8*8:=by unfold left;omega
theorem pow_step (r:Nat) (hr:r<8):(2:Int)^(64-r*8)=2^(56-r*8)*256:=by
 rw [show (256:Int)=2^8 from rfl,<- LK];congr 1;omega
theorem pre_sum (A q k:Nat) (hk:k<32) (h:k / 8+q=3):pre A q (k+1)=pre A q k*256+DD A k:=by
 obtain ⟨e1,e2⟩:=left_step q k h
 unfold pre;rw [e1,e2,pow_step _ om,<- byt_wd A q k hk h,<- Int.ediv_ediv_of_nonneg (by exact Int.le_of_lt (J4 dC))]
 omega
theorem pre_bound (A q k:Nat) (h:k / 8+q=3):0<=pre A q k/\pre A q k*256<18446744073709551616:=by
 obtain ⟨e1,_⟩:=left_step q k h
 unfold pre;rw [e1]
 have h0:=wP A q;have h1:=wd_lt A q
 have hp:(0:Int)<2^(64-k%8*8):=J4 dC
 have hd:wd A q / 2^(64-k%8*8)*2^(64-k%8*8)<=wd A q:=Int.ediv_mul_le _ om
 have h256:(256:Int)<=2^(64-k%8*8):=by rw [pow_step _ om];have:(0:Int)<2^(56-k%8*8):=J4 dC;omega
 have hn:0<=wd A q / 2^(64-k%8*8):=Int.ediv_nonneg h0 om
 exact ⟨hn,by have:=Int.mul_le_mul_of_nonneg_left h256 hn;omega⟩
theorem G7 (A q k:Nat) (hk:k<32) (h:k / 8+q=3):bits .or .u64 (JI.wrap (pre A q k*256)) (JI.wrap (DD A k))=pre A q (k+1):=by
 obtain ⟨b0,b1⟩:=pre_bound A q k h
 have c0:=Az A k;have c1:=byt_lt A k
 rw [Iy om b1,Iy c0 om,show (256:Int)=2^8 from rfl,Dl _ _ 8 b0 c0 c1 om,pre_sum A q k hk h];rfl
theorem Hg (A q k:Nat) (hk:k<32) (h:k / 8+q=3):bits .or .u64 (top A q k) (DD A k*2^(56-k%8*8))=top A q (k+1):=by
 obtain ⟨e1,e2⟩:=left_step q k h
 obtain ⟨b0,b1⟩:=pre_bound A q k h
 have c0:=Az A k;have c1:=byt_lt A k
 have hs:=pre_sum A q k hk h
 have hp:(0:Int)<2^(56-k%8*8):=J4 dC
 unfold top
 change bits .or .u64 (pre A q k*2^left q k) _=pre A q (k+1)*2^left q (k+1)
 rw [hs,e1,e2,pow_step _ om]
 have hd:pre A q (k+1)*2^(56-k%8*8)<=wd A q:=by
  unfold pre;rw [e2];exact Int.ediv_mul_le _ om
 have hw:=wd_lt A q
 rw [hs] at hd
 have e3:pre A q k*(2^(56-k%8*8)*256)=pre A q k*2^(8+(56-k%8*8)):=by rw [LK];congr 1;rw [Int.mul_comm];rfl
 have e4:(pre A q k*256+DD A k)*2^(56-k%8*8)=pre A q k*(2^(56-k%8*8)*256)+DD A k*2^(56-k%8*8):=by
  rw [Int.add_mul,Int.mul_assoc,Int.mul_comm 256]
 have hb:DD A k*2^(56-k%8*8)<2^(8+(56-k%8*8)):=by
  rw [LK];exact Kq c1 hp
 rw [e4] at hd ⊢
 rw [e3] at hd ⊢
 exact Dl _ _ _ b0 (Int.mul_nonneg c0 om) hb om
theorem top_byte_in (A k:Nat):JI.wrap (DD A k*2^(56-k%8*8))=DD A k*2^(56-k%8*8):=by
 have c0:=Az A k;have c1:=byt_lt A k
 have hp:(0:Int)<2^(56-k%8*8):=J4 dC
 have h1:DD A k*2^(56-k%8*8)<256*2^(56-k%8*8):=Kq c1 hp
 have h2:(256:Int)*2^(56-k%8*8)<=18446744073709551616:=by
  have:(2:Int)^(56-k%8*8)<=2^56:=by
   have:=JZ (n:=2) dC (show 56-k%8*8<=56 by omega)
   have:((2^(56-k%8*8):Nat):Int)<=((2^56:Nat):Int):=by exact_mod_cast this
   simpa using this
  omega
 exact Iy (Int.mul_nonneg c0 om) om
variable {a:OA} {c d:Nat} {x:LW} {xs ys:LU} {fr:Nat × Nat} {ty:LZ}
section
theorem bZ.mono {F G:LX->Prop} (h:bZ T F w) (hFG:∀ w,F w->G w):bZ T G w:=by
 obtain ⟨S,h1,h2⟩:=h
 exact ⟨S,h1,fun w' hw=>hFG _ (h2 w' hw)⟩
theorem bZ.sub {T':Nat->Prop} {F:LX->Prop} (h:bZ T F w) (hT:∀ b,T' b->T b):bZ T' F w:=by
 obtain ⟨S,h1,h2⟩:=h
 exact ⟨S,fun b hb=>⟨(h1 b hb).1,fun hx=>(h1 b hb).2 (hT b hx)⟩,h2⟩
theorem bZ.and {F G:LX->Prop} (h:bZ T F w) (k:bZ T G w):bZ T (fun w=>F w/\G w) w:=by
 obtain ⟨S,h1,h2⟩:=h
 obtain ⟨S',k1,k2⟩:=k
 refine ⟨fun b=>S b\/S' b,fun b hb=>hb.elim (h1 b) (k1 b),fun w' hw=>⟨h2 w' (fun b hb=>hw b (Js hb)),k2 w' (fun b hb=>hw b (J6 hb))⟩⟩
theorem iD:bZ T (fun _=>True) w:=dL (fun _=>trivial)
def bv (x:UInt8):LW:=.int .u8 (x.toNat:Int)
def bs (xs:LU):List LW:=xs.map bv
theorem iI (xs:LU):(bs xs).length=xs.length:=KN _
theorem bs_app (xs ys:LU):bs (xs++ys)=bs xs++bs ys:=KL
def Rs (w:LX) (a:OA) (vs:List LW):Prop:=vs=[]\/∃ p,a=some p/\∀ i v,vs[i]? = some v->w.cell? (p.add i)=some v
theorem Gj (a:Addr) (i:Nat):(a.add i).block=a.block:=by unfold KR;split<;>rfl
theorem cell_congr {a:Addr} (h:w'.heap[a.block]? = w.heap[a.block]?):w'.cell? a=w.cell? a:=by
 unfold Jo
 rw [h]
def zH (T:Nat->Prop) (a:OA) (n:Nat):Prop:=∀ p,a=some p->0<n->¬ T p.block
theorem Rs.uC {vs : List LW} (h : Rs w a vs) (hT : zH T a vs.length) : bZ T (fun w => Rs w a vs) w := by
 rcases h with h | ⟨p,rfl,h⟩
 ·exact dL (fun _=>Js h)
 ·cases vs with
  | nil=>exact dL (fun _=>Js rfl)
  | cons v0 vs =>
    refine ⟨fun b=>b=p.block,?_,?_⟩
    ·rintro b rfl
     refine ⟨?_,hT p rfl (by simp)⟩
     have h0:=h 0 v0 rfl
     unfold Jo at h0
     by_cases hl:p.block<w.heap.size
     ·exact hl
     ·rw [Gj,I5 om] at h0;simp at h0
    ·intro w' hw
     refine J6 ⟨p,rfl,fun i v hv=>?_⟩
     exact (cell_congr (by rw [Gj];exact hw _ rfl)).trans (h i v hv)
theorem Rs.drop {vs:List LW} (h:Rs w a vs) (k:Nat):Rs w (a.map (·.add k)) (vs.drop k):=by
 rcases h with rfl | ⟨p,rfl,h⟩
 ·exact Js (by simp)
 ·refine J6 ⟨p.add k, rfl, fun i v hv => ?_⟩
  rw [Addr.add_add]
  rw [List.getElem?_drop] at hv
  exact h _ v hv
theorem Rs.take {vs:List LW} (h:Rs w a vs) (k:Nat):Rs w a (vs.take k):=by
 rcases h with rfl | ⟨p,rfl,h⟩
 ·exact Js (by simp)
 ·refine J6 ⟨p, rfl, fun i v hv => ?_⟩
  rw [Jr] at hv
  split at hv
  ·exact h i v hv
  ·exact absurd hv (by simp)
structure Bs (w:LX) (a:OA) (c:Nat) (xs:LU):Prop where
 le:xs.length<=c
 max:xs.length<=140737488351232
 rows:Rs w a (bs xs)
theorem Bs.nil:Bs w a c []:=⟨by simp,by simp,Js rfl⟩
theorem Bs.uC (h:Bs w a c xs) (hT:zH T a xs.length):bZ T (fun w=>Bs w a c xs) w :=
 (h.rows.uC (by rw [iI];exact hT)).mono (fun _ hr=>⟨h.le,h.max,hr⟩)
theorem Bs.dW (h:Bs w a c xs):bZ (fun _=>False) (fun w=>Bs w a c xs) w:=h.uC (fun _ _ _=>id)
def Fs (w0 w:LX) (a:OA) (c:Nat) (xs:LU):Prop:=Bs w a c xs/\∀ p,a=some p->0<xs.length->w0.heap.size<=p.block
theorem Fs.nil {w0:LX}:Fs w0 w a c []:=⟨Bs.nil,fun _ _ h=>absurd h (by simp)⟩
theorem Fs.uC {w0:LX} (h:Fs w0 w a c xs) (hT:∀ b,T b->b<w0.heap.size):bZ T (fun w=>Fs w0 w a c xs) w :=
 (h.1.uC (fun p hp hn hx=>absurd (h.2 p hp hn) (by grind))).mono (fun _ hr=>⟨hr,h.2⟩)
theorem Fs.older {w0 w1:LX} (h:Fs w1 w a c xs) (hs:w0.heap.size<=w1.heap.size):Fs w0 w a c xs :=
 ⟨h.1,fun p hp hn=>JA hs (h.2 p hp hn)⟩
theorem Bs.xB {T:LZ} (hb:w.heap[g]? = some (.cells C T fr)) (hx:C.toList.take xs.length=bs xs) (hc:xs.length<=c) (hm:xs.length<=140737488351232):Bs w (some ⟨g,0,none⟩) c xs:=by
 refine ⟨hc,hm,J6 ⟨_,rfl,fun i v hv=>?_⟩⟩
 have h1:C[i]? = some v:=by grind
 rw [JD]
 unfold Jo
 simp only [hb]
 simpa using h1
def gB (xs:LU) (i:Nat):Nat:=(xs.getD i 0).toNat
theorem gV (xs:LU) (i:Nat):gB xs i<256:=UInt8.toNat_lt _
theorem Bs.cell (h:Bs w a c xs) (hi:i<xs.length):∃ p,a=some p/\w.cell? (p.add i)=some (.int .u8 (gB xs i:Int)):=by
 rcases h.rows with h0 | ⟨p,rfl,hh⟩
 ·have := congrArg JP h0
  rw [iI] at this
  simp at this
  subst this
  simp at hi
 ·refine ⟨p, rfl, hh i _ ?_⟩
  unfold bs
  simp [bv,gB,IR hi]
def zM (a:OA) (k:Nat):OA:=a.map (·.add k)
def yI (a:OA) (l m:Nat):OA:=if m=l then a else zM a l
def nT (xs:LU) (l h:Nat):LU:=(xs.take h).drop l
theorem oJ (xs:LU) (l h:Nat) (hh:h<=xs.length):(nT xs l h).length=h-l:=by
 unfold nT
 rw [List.length_drop,JW]
 omega
theorem Bs.nT (h:Bs w a c xs) {l k:Nat} (hl:l<=k) (hk:k<=xs.length):Bs w (yI a l c) (c-l) (nT xs l k):=by
 have hle:=h.le
 have hm:=h.max
 have hlen:=oJ xs l k hk
 refine ⟨by omega,by omega,?_⟩
 unfold yI
 split
 ·have : YtegagmoldjiaaaaGreatDoor.nT xs l k = [] := J5 om
  rw [this]
  exact Js rfl
 ·unfold zM YtegagmoldjiaaaaGreatDoor.nT bs
  rw [List.map_drop,La]
  exact (h.rows.take k).drop l
def RegF (P:LY) (id:Nat) (ops:Array Me) (draw:Bool) (n:Nat) (l:List (Nat × LW)) (w0:nN) (h:List (Nat × Obj)) (F:LX->Prop) (l':(Nat->bT)->List (Nat × LW)) (h':(Nat->bT)->List (Nat × Obj)) (F':(Nat->bT)->LX->Prop):Prop :=
 ∀ Q A w,Fr n l A->St w0 h F w->(∀ ρ A' w',Fr n (l' ρ) A'->St w0 (h' ρ) (F' ρ) w'->Q .normal A' w')->(KA id ops draw).wp P Q A w
section
variable {P:LY} {Q:L9→Act→LX→Prop} {n:Nat} {l:List (Nat × LW)} {w0:nN} {h:List (Nat × Obj)} {F:LX→Prop}
theorem ok_rf {id:Nat} {ops ops':Array Me} {d:Bool} {l':(Nat->bT)->List (Nat × LW)} {h':(Nat->bT)->List (Nat × Obj)} {F':(Nat->bT)->LX->Prop} (e:ops=ops') (hr:RegF P id ops' d n l w0 h F l' h' F') (hk:∀ ρ,mY (Q .normal) n (l' ρ) w0 (h' ρ) (F' ρ)) :
 Ok P (.region id ops d) Q n l w0 h F:=by
 subst e
 exact fun A w hf hs=>hr Q A w hf hs (fun ρ A' w' hf' hs'=>hk ρ A' w' hf' hs')
theorem ok_seq_rf {id:Nat} {ops ops':Array Me} {d:Bool} {l':(Nat->bT)->List (Nat × LW)} {h':(Nat->bT)->List (Nat × Obj)} {F':(Nat->bT)->LX->Prop} (e:ops=ops') (hr:RegF P id ops' d n l w0 h F l' h' F') (hk:∀ ρ,Ok P y Q n (l' ρ) w0 (h' ρ) (F' ρ)) :
 Ok P (.seq (.region id ops d) y) Q n l w0 h F:=aC (ok_rf e hr hk)
theorem ok_pure {c:L6} (p:Prop) (hp:∀ w,F w->p) (hk:p->Ok P c Q n l w0 h F):Ok P c Q n l w0 h F :=
 fun A w hf hs=>hk (hp w hs.facts.now) A w hf hs
theorem mt_pure {R:Act->LX->Prop} (p:Prop) (hp:∀ w,F w->p) (hk:p->mY R n l w0 h F):mY R n l w0 h F :=
 fun A w hf hs=>hk (hp w hs.facts.now) A w hf hs
theorem ok_facts {c:L6} (G:LX->Prop) (hp:∀ w,F w->G w) (hk:Ok P c Q n l w0 h G):Ok P c Q n l w0 h F :=
 fun A w hf hs=>hk A w hf (hs.dP hp)
end
section
variable {P:LY} {ops:Array Me} {D:List Nat} {l:List (Nat × LW)} {w0:nN} {h:List (Nat × Obj)} {F0:LX→Prop}
variable {vals:(Nat→bT)→Nat→LW} {effs:(Nat→bT)→Nat→qJ} {fact:(Nat→bT)→Nat→LX→Prop}
theorem mW.brings (hO:mW P ops D l w0 h F0 vals effs (fun _ _ _=>True) i) (hf:∀ ρ w,fact ρ i w):mW P ops D l w0 h F0 vals effs fact i:=by
 intro o ho ρ T w hG
 have hG':iM ops D w0 h F0 effs (fun _ _ _=>True) i ρ T w:=⟨hG.lt,hG.aS,hG.block,hG.ne,hG.iE,fun j _=>iD⟩
 have h1:=hO o ho ρ T w hG'
 have key:∀ v w',Bi ops D h vals effs (fun _ _ _=>True) i ρ T w v w'->Bi ops D h vals effs fact i ρ T w v w':=by
  rintro v w' ⟨r,e1,e2,e3,e4,e5,_⟩
  exact ⟨r,e1,e2,e3,e4,e5,dL (hf _)⟩
 split at h1
 ·rename_i hw
  rw [if_pos hw]
  unfold opv at h1 ⊢
  split at h1
  ·exact key _ _ h1
  ·exact key _ _ h1
  ·refine h1.mono (fun e w'' he => ?_)
   cases e with
   | returned v=>exact key _ _ he
   | panicked c=>exact he
   | outgrown=>exact he
  ·exact h1.elim
 ·rename_i hw
  rw [if_neg hw]
  exact key _ _ h1
theorem iM.gG (hG:iM ops D w0 h F0 effs fact i ρ T w) (n:Nat) (hn:fM ops D h (effs ρ) i [n]=true) (hk:gG ops D h (effs ρ) i [n]=[(g,o)]):w.heap[g]? = some o:=by
 unfold fM at hn
 rw [II,IP] at hn
 have hn1:=hn.1 n (by simp)
 rw [II] at hn1
 obtain ⟨q,hb⟩:=IK.1 hn1.1
 have:=(hG.block n q hb hn1.2).1
 unfold YtegagmoldjiaaaaGreatDoor.gG at hk
 simp only [Lc,List.map_nil,hb,KD.injEq,and_true] at hk
 rw [hk] at this
 exact this
theorem o_semF (i:Nat) (s:(Nat->bT)->Sem Next) (v:(Nat->bT)->LW) (hc:∀ ρ,Ah ops (vals ρ) (vals (dU ρ i {}) i) (effs (dU ρ i {}) i) i=some (v ρ,{}))
 (hx:∀ ρ,execOp (eX ops D l (vals ρ) i) (iR ops i)=s ρ) (hr:∀ ρ T w,iM ops D w0 h F0 effs fact i ρ T w->(s ρ).run P w=.ok (.value (v ρ)) w)
 (hf:∀ ρ T w,iM ops D w0 h F0 effs fact i ρ T w->bZ T (fact (dU ρ i {}) i) w):mW P ops D l w0 h F0 vals effs fact i:=by
 intro o ho ρ T w hG
 have hsm:=Aw (hc ρ)
 have hoe:=lN hsm.1.1
 obtain rfl:o=iR ops i:=by grind
 rw [if_pos hsm.1.2]
 unfold opv
 rw [hx ρ,hr ρ T w hG]
 refine ⟨{},hsm.2.1.symm,pG.refl _ _,?_,?_,?_,?_⟩
 ·rw [hsm.2.2];intro n q hm;simp at hm
 ·rw [hsm.2.2];intro k b q hk;simp at hk
 ·rw [hsm.2.2];simp
 ·exact (hf ρ T w hG).sub (fun b hb=>by grind)
def iG (P:LY) (ops:Array Me) (D:List Nat) (l:List (Nat × LW)) (V:Nat->LW) (i:Nat) (z:List Nat):Option (Next × List (Nat × Obj) × List (Nat × Nat)) :=
 if (ops[i]?).isSome&&nD V (iR ops i) then uN P (execOp (eX ops D l V i) (iR ops i)) [] [] z else none
theorem o_callG (i:Nat) (f:Md) (args:(Nat->bT)->Array LW)
 (hc:∀ ρ z,iG P ops D l (vals ρ) i z=some (.enter f (args ρ),[],[]))
 (he:∀ ρ r,effs (dU ρ i r) i={})
 (hf:∀ ρ T w,iM ops D w0 h F0 effs fact i ρ T w->Calls P f (args ρ) w (fun e w'=>Below w.heap.size w w'/\∃ r,e=.returned (vals (dU ρ i r) i)/\bZ (fun b=>b<w.heap.size) (fact (dU ρ i r) i) w')):mW P ops D l w0 h F0 vals effs fact i:=by
 have key:∀ ρ z,((ops[i]?).isSome=true/\nD (vals ρ) (iR ops i)=true)/\uN P (execOp (eX ops D l (vals ρ) i) (iR ops i)) [] [] z=some (.enter f (args ρ),[],[]):=by
  intro ρ z
  have h1:=hc ρ z
  unfold iG at h1
  split at h1
  ·rename_i hb
   simp only [II] at hb
   exact ⟨hb,h1⟩
  ·exact absurd h1 (by simp)
 intro o ho ρ T w hG
 have hoe:=lN (key ρ []).1.1
 obtain rfl:o=iR ops i:=by grind
 rw [if_pos (key ρ []).1.2]
 obtain ⟨w1,h1,_,_,h4,_,_⟩:=uK (execOp (eX ops D l (vals ρ) i) (iR ops i)) [] [] w _ _ _ (by intro y hy;simp at hy) (by simp) ((key ρ _).2) trivial
 have hb:Below w.heap.size w w1:=⟨h4.os,h4.tape,h4.output,h4.size,fun k hk=>h4.block k hk (by simp)⟩
 have hheap:= fun b hb'=>hb.block b hb'
 have hG1:iM ops D w0 h F0 effs fact i ρ T w1:=by
  have tr:∀ {F:LX->Prop},bZ T F w->bZ T F w1:=by
   rintro F ⟨S,s1,s2⟩
   refine ⟨S,fun b hb'=>⟨IZ (s1 b hb').1 hb.size,(s1 b hb').2⟩,fun w' hw=>s2 w' (fun b hb'=>?_)⟩
   rw [hw b hb',hheap b (s1 b hb').1]
  refine ⟨fun b hb'=>IZ (hG.lt b hb') hb.size,hG.aS.trans (pG.vU hb),fun n x hn hk=>?_,hG.ne,tr hG.iE,fun j hj=>tr (hG.facts j hj)⟩
  have:=hG.block n x hn hk
  refine ⟨?_,this.2⟩
  rw [hheap _ (hG.lt _ this.2.1)]
  exact this.1
 unfold opv
 rw [h1]
 refine (hf ρ T w1 hG1).mono (fun e w2 hew=>?_)
 obtain ⟨hb2,r,rfl,hp⟩:=hew
 refine ⟨r,rfl,pG.vU (hb.trans (hb2.mono hb.size)),?_,?_,?_,?_⟩
 ·rw [he];intro n q hm;simp at hm
 ·rw [he];intro k b q hk;simp at hk
 ·rw [he];simp
 ·rw [he]
  refine hp.sub (fun b hbT=>?_)
  rcases hbT with hbT | hbT
  ·exact IZ (hG.lt b hbT) hb.size
  ·simp at hbT
theorem o_callP (i:Nat) (f:Md) (args:(Nat->bT)->Array LW) (v:(Nat->bT)->LW)
 (hc:∀ ρ z,iG P ops D l (vals ρ) i z=some (.enter f (args ρ),[],[]))
 (hv:∀ ρ,vals (dU ρ i {}) i=v ρ) (he:∀ ρ r,effs (dU ρ i r) i={}) (ht:∀ ρ w,fact ρ i w)
 (hf:∀ ρ T w,iM ops D w0 h F0 effs fact i ρ T w->Calls P f (args ρ) w (fun e w'=>e=.returned (v ρ)/\Below w.heap.size w w')):mW P ops D l w0 h F0 vals effs fact i:=by
 refine o_callG i f args hc he (fun ρ T w hG=>(hf ρ T w hG).mono (fun e w' hew=>⟨hew.2,{},?_,dL (ht _)⟩))
 rw [hv ρ];exact hew.1
theorem o_callB (i:Nat) (f:Md) (args:(Nat->bT)->Array LW) (v:(Nat->bT)->OA->Nat->LW) (xs:(Nat->bT)->LU)
 (hc:∀ ρ z,iG P ops D l (vals ρ) i z=some (.enter f (args ρ),[],[]))
 (hv:∀ ρ r,vals (dU ρ i r) i=v ρ r.a (r.n.headD 0)) (he:∀ ρ r,effs (dU ρ i r) i={}) (ht:∀ ρ r,fact (dU ρ i r) i=fun w=>Fs w0.w w r.a (r.n.headD 0) (xs ρ))
 (hf:∀ ρ T w,iM ops D w0 h F0 effs fact i ρ T w->Calls P f (args ρ) w (fun e w'=>∃ a c,e=.returned (v ρ a c)/\Below w.heap.size w w'/\Fs w w' a c (xs ρ))):mW P ops D l w0 h F0 vals effs fact i:=by
 refine o_callG i f args hc he (fun ρ T w hG=>(hf ρ T w hG).mono (fun e w' hew=>?_))
 obtain ⟨a,c,h1,h2,h3⟩:=hew
 refine ⟨h2,{ n:=[c],a:=a},?_,?_⟩
 ·rw [hv];exact h1
 ·rw [ht]
  exact (h3.uC (fun b hb=>hb)).mono (fun _ hx=>hx.older hG.aS.size)
end
section
variable {P:LY} {ops:Array Me} {D:List Nat} {l:List (Nat × LW)} {w0:nN} {h:List (Nat × Obj)} {F0:LX→Prop}
variable {vals:(Nat→bT)→Nat→LW} {effs:(Nat→bT)→Nat→qJ} {fact:(Nat→bT)→Nat→LX→Prop}
structure Ew (w w':LX) (o:Obj):Prop where
 os:w'.os=w.os
 tape:w'.tape=w.tape
 output:w'.output=w.output
 heap:w'.heap=w.heap.push o
structure DR (w w':LX) (g:Nat) (o:Obj):Prop where
 os:w'.os=w.os
 tape:w'.tape=w.tape
 output:w'.output=w.output
 size:w'.heap.size=w.heap.size
 other:∀ b,b≠g->w'.heap[b]? = w.heap[b]?
 at_:w'.heap[g]? = some o
def zD (ops:Array Me) (V:Nat->LW) (v:LW) (E':qJ) (i:Nat):Option (LW × qJ) :=
 if (ops[i]?).isSome&&nD V (iR ops i) then some (v,E') else none
theorem Eg (i:Nat) (s:(Nat->bT)->Sem Next) (v:(Nat->bT)->List Nat->LW) (ob:(Nat->bT)->List Nat->Obj)
 (hc:∀ ρ z,zD ops (vals ρ) (vals (dU ρ i { n:=z}) i) (effs (dU ρ i { n:=z}) i) i=some (v ρ z,{ news:=[(z.headD 0,ob ρ z)]}))
 (hx:∀ ρ,execOp (eX ops D l (vals ρ) i) (iR ops i)=s ρ) (ht:∀ ρ w,fact ρ i w)
 (hr:∀ ρ T w,iM ops D w0 h F0 effs fact i ρ T w->∃ k w',(s ρ).run P w=.ok (.value (v ρ [w.heap.size,k])) w'/\Ew w w' (ob ρ [w.heap.size,k])):mW P ops D l w0 h F0 vals effs fact i:=by
 have key:∀ ρ z,((ops[i]?).isSome=true/\nD (vals ρ) (iR ops i)=true)/\v ρ z=vals (dU ρ i { n:=z}) i/\effs (dU ρ i { n:=z}) i={ news:=[(z.headD 0,ob ρ z)]}:=by
  intro ρ z
  have h1:=hc ρ z
  unfold zD at h1
  split at h1
  ·rename_i hb
   simp only [II] at hb
   simp only [Jw.injEq,Ls.injEq] at h1
   exact ⟨hb,h1.1.symm,h1.2⟩
  ·exact absurd h1 (by simp)
 intro o ho ρ T w hG
 have hoe:=lN (key ρ []).1.1
 obtain rfl:o=iR ops i:=by grind
 rw [if_pos (key ρ []).1.2]
 obtain ⟨k,w',hrun,hgr⟩:=hr ρ T w hG
 unfold opv
 rw [hx ρ,hrun]
 have he:=(key ρ [w.heap.size,k]).2.2
 refine ⟨{ n:=[w.heap.size,k]},(key ρ _).2.1,?_,?_,?_,?_,dL (ht _)⟩
 ·refine ⟨hgr.os, hgr.tape, hgr.output, by rw [hgr.heap]; simp, fun b hb _ => ?_⟩
  rw [hgr.heap,Jz,if_neg om]
 ·rw [he];intro n q hm;simp at hm
 ·rw [he]
  intro j b q hj
  have:j=0:=by grind
  subst this
  obtain ⟨rfl,rfl⟩:=hj
  rw [hgr.heap]
  simp
 ·rw [he];simp
theorem pR (i n:Nat) (s:(Nat->bT)->Sem Next) (g:(Nat->bT)->Nat) (ob ob':(Nat->bT)->Obj) (v:(Nat->bT)->LW)
 (hc:∀ ρ,zD ops (vals ρ) (vals (dU ρ i {}) i) (effs (dU ρ i {}) i) i=some (v ρ,{ puts:=[(n,g ρ,ob' ρ)]}))
 (hn:∀ ρ,fM ops D h (effs ρ) i [n]=true) (hk:∀ ρ,gG ops D h (effs ρ) i [n]=[(g ρ,ob ρ)])
 (hx:∀ ρ,execOp (eX ops D l (vals ρ) i) (iR ops i)=s ρ) (ht:∀ ρ w,fact ρ i w)
 (hr:∀ ρ T w,iM ops D w0 h F0 effs fact i ρ T w->w.heap[g ρ]? = some (ob ρ)->∃ w',(s ρ).run P w=.ok (.value (v ρ)) w'/\DR w w' (g ρ) (ob' ρ)):mW P ops D l w0 h F0 vals effs fact i:=by
 have key:∀ ρ,((ops[i]?).isSome=true/\nD (vals ρ) (iR ops i)=true)/\v ρ=vals (dU ρ i {}) i/\effs (dU ρ i {}) i={ puts:=[(n,g ρ,ob' ρ)]}:=by
  intro ρ
  have h1:=hc ρ
  unfold zD at h1
  split at h1
  ·rename_i hb
   simp only [II] at hb
   simp at h1
   exact ⟨hb,h1.1.symm,h1.2⟩
  ·exact absurd h1 (by simp)
 intro o ho ρ T w hG
 have hoe:=lN (key ρ).1.1
 obtain rfl:o=iR ops i:=by grind
 rw [if_pos (key ρ).1.2]
 obtain ⟨w',hrun,hwr⟩:=hr ρ T w hG (hG.gG n (hn ρ) (hk ρ))
 unfold opv
 rw [hx ρ,hrun]
 have he:=(key ρ).2.2
 have hn0:=hn ρ
 unfold fM at hn0
 rw [II,IP] at hn0
 have hn1:=hn0.1 n (by simp)
 rw [II] at hn1
 obtain ⟨q,hb⟩:=IK.1 hn1.1
 have hbg:=by
  have:=hk ρ
  unfold gG at this
  simp [*] at this
  exact this
 refine ⟨{},(key ρ).2.1,?_,?_,?_,?_,dL (ht _)⟩
 ·refine ⟨hwr.os, hwr.tape, hwr.output, by rw [hwr.size]; exact JY _, fun k hk' hX => hwr.other k ?_⟩
  rintro rfl
  exact hX ⟨n,_,q,by rw [he];exact Jk,hb,by grind⟩
 ·rw [he]
  intro n' o' hm
  simp at hm
  obtain ⟨rfl,rfl⟩:=hm
  refine ⟨hn1.2,q,hb,?_,Js ?_⟩
  ·simpa using hwr.at_
  ·rw [hbg];simp
 ·rw [he];intro k b' q' hk';simp at hk'
 ·rw [he];simp
end
section
variable {P:LY} {ops:Array Me} {D:List Nat} {l:List (Nat × LW)} {w0:nN} {h:List (Nat × Obj)} {F0:LX→Prop}
variable {vals:(Nat→bT)→Nat→LW} {effs:(Nat→bT)→Nat→qJ} {fact:(Nat→bT)→Nat→LX→Prop}
inductive H8 (w w':LX) (g g':Nat) (o:Obj):Prop
 | stay (e:g'=g) (h:DR w w' g o)
 | grow (e:g'=w.heap.size) (h:Ew w w' o)
theorem o_move1 (i n : Nat) (s : (Nat -> bT) -> Sem Next) (g : (Nat -> bT) -> Nat) (ob : (Nat -> bT) -> Obj) (ob' : (Nat -> bT) -> bT -> Obj) (v : (Nat -> bT) -> bT -> LW) (p : (Nat -> bT) -> bT -> Prop)
 (hc:∀ ρ r,zD ops (vals ρ) (vals (dU ρ i r) i) (effs (dU ρ i r) i) i=some (v ρ r,{ puts:=[(n,r.n.headD 0,ob' ρ r)]}))
 (hn:∀ ρ,fM ops D h (effs ρ) i [n]=true) (hk:∀ ρ,gG ops D h (effs ρ) i [n]=[(g ρ,ob ρ)])
 (hx:∀ ρ,execOp (eX ops D l (vals ρ) i) (iR ops i)=s ρ) (ht:∀ ρ r,fact (dU ρ i r) i=fun _=>p ρ r)
 (hr:∀ ρ T w,iM ops D w0 h F0 effs fact i ρ T w->w.heap[g ρ]? = some (ob ρ)->∃ r w',(s ρ).run P w=.ok (.value (v ρ r)) w'/\p ρ r/\H8 w w' (g ρ) (r.n.headD 0) (ob' ρ r)):mW P ops D l w0 h F0 vals effs fact i:=by
 have key:∀ ρ r,((ops[i]?).isSome=true/\nD (vals ρ) (iR ops i)=true)/\v ρ r=vals (dU ρ i r) i/\effs (dU ρ i r) i={ puts:=[(n,r.n.headD 0,ob' ρ r)]}:=by
  intro ρ r
  have h1:=hc ρ r
  unfold zD at h1
  split at h1
  ·rename_i hb
   simp only [II] at hb
   simp only [Jw.injEq,Ls.injEq] at h1
   exact ⟨hb,h1.1.symm,h1.2⟩
  ·exact absurd h1 (by simp)
 intro o ho ρ T w hG
 have hoe:=lN (key ρ {}).1.1
 obtain rfl:o=iR ops i:=by grind
 rw [if_pos (key ρ {}).1.2]
 obtain ⟨r,w',hrun,hp,hmv⟩:=hr ρ T w hG (hG.gG n (hn ρ) (hk ρ))
 unfold opv
 rw [hx ρ,hrun]
 have he:=(key ρ r).2.2
 have hn0:=hn ρ
 unfold fM at hn0
 rw [II,IP] at hn0
 have hn1:=hn0.1 n (by simp)
 rw [II] at hn1
 obtain ⟨q,hb⟩:=IK.1 hn1.1
 have hbg:=by
  have:=hk ρ
  unfold gG at this
  simp [*] at this
  exact this
 refine ⟨r,(key ρ r).2.1,?_,?_,?_,?_,by rw [ht];exact dL (fun _=>hp)⟩
 ·cases hmv with
  | stay e hwr =>
    refine ⟨hwr.os,hwr.tape,hwr.output,by rw [hwr.size];exact JY _,fun k hk' hX=>hwr.other k ?_⟩
    rintro rfl
    exact hX ⟨n,_,q,by rw [he];exact Jk,hb,by grind⟩
  | grow e hgr =>
    refine ⟨hgr.os,hgr.tape,hgr.output,by rw [hgr.heap];simp,fun b hb _=>?_⟩
    rw [hgr.heap,Jz,if_neg om]
 ·rw [he]
  intro n' o' hm
  simp at hm
  obtain ⟨rfl,rfl⟩:=hm
  refine ⟨hn1.2,q,hb,?_,?_⟩
  ·cases hmv with
   | stay e hwr=>have:=hwr.at_;rw [<- e] at this;simpa using this
   | grow e hgr =>
     rw [e,hgr.heap];simp
  ·cases hmv with
   | stay e hwr=>left;rw [hbg];simpa using e
   | grow e hgr =>
     right
     refine ⟨by grind,?_,rfl⟩
     intro n2 y2 hm2
     simp at hm2
     exact Js hm2.1
 ·rw [he];intro k b' q' hk';simp at hk'
 ·rw [he];simp
end
section
variable {P:LY} {t e:LZ}
def vI (P:LY) (e:LZ):Prop:=∃ i,P.info? e=some i/\i.size=1/\i.bytes=1/\i.zero=some (.int .u8 0)
theorem u8like_of (h:(P.info? e).map (fun i=>(i.size,i.bytes,i.zero))=some (1,1,some (.int .u8 0))):vI P e:=by
 rw [IM] at h
 obtain ⟨i,h1,h2⟩:=h
 simp at h2
 exact ⟨i,h1,h2⟩
def zB (n:Nat):Array LW:=(bs (I4 n 0)).toArray
def lK (C:Array LW) (o:Nat) (vs:List LW):Array LW:=(C.toList.take o++vs++C.toList.drop (o+vs.length)).toArray
def grow (C:Array LW) (o:Nat) (vs:List LW) (k:Nat):Array LW:=(C.toList.take o++vs).toArray++zB k
theorem zT (n:Nat):(zB n).size=n:=by simp [zB,bs]
theorem sizeOf_u8 (hi:vI P e) (w:LX):(sizeOf e).run P w=.ok 1 w:=by
 obtain ⟨i,h1,h2,_⟩:=hi
 simp [sizeOf,typeInfo,h1,h2]
theorem made_zB (n:Nat):madeCells #[.int .u8 0] n=zB n:=by
 apply Array.ext
 ·simp [madeCells,zB,bs]
 ·intro i h1 h2
  simp [madeCells,zB,bs,bv,Nat.mod_one]
theorem zero_zB (n:Nat):Jb #[.int .u8 0] n=zB n:=by
 apply Array.ext
 ·simp [Jb,zB,bs]
 ·intro i h1 h2
  simp [Jb,zB,bs,bv,Nat.mod_one]
theorem Dj (xs:LU):∀ u∈bs xs,u.oneCell'=true:=by
 intro u hu
 obtain ⟨x,_,rfl⟩:=IX.1 hu
 rfl
theorem Bs.src {tx e':LZ} (hk:P.underlying tx=some (.slice e')) (h:Bs w a c xs):Src P 1 tx (.slice a xs.length c) xs.length (bs xs) w:=by
 cases a with
 | none =>
   have h0:xs=[]:=by
    rcases h.rows with h0 | ⟨p,hp,_⟩
    ·exact JM.1 h0
    ·exact absurd hp (by simp)
   subst h0
   exact Src.ofNil w hk c
 | some p =>
   refine Src.ofSlice w hk p xs.length c (bs xs) (by rw [iI,Nat.mul_one]) ?_ (Dj xs)
   intro j u hu
   rcases h.rows with h0 | ⟨p',hp,hh⟩
   ·rw [h0] at hu;simp at hu
   ·obtain rfl : p = p' := by simpa using hp
    exact hh j u hu
theorem BO {C':Array LW} {T:LZ} (hg:w.heap[g]? = some (.cells C T (0,0))):DR w (w.setRow g C') g (.cells C' T (0,0)) :=
 ⟨rfl,rfl,rfl,size_setRow w g C',fun b hb=>setRow_other w g b C' hb,setRow_heap w g C C' T _ hg⟩
theorem app_room {tx:LZ} (ht:P.underlying t=some (.slice e)) (hi:vI P e) {n:Nat} (hg:w.heap[g]? = some (.cells C e (0,0)))
 (hs:Src P 1 tx x ys.length (bs ys) w) (hr:n+ys.length<=c) (hf:n+ys.length<=C.size) :
 ∃ w',(do pure (IL (<- I8 #[t,tx] ty #[.slice (some ⟨g,0,none⟩) n c,x])):Sem Next).run P w=.ok (.value (.slice (some ⟨g,0,none⟩) (n+ys.length) c)) w'/\DR w w' g (.cells (lK C n (bs ys)) e (0,0)):=by
 obtain ⟨i,h1,h2,h3,h4⟩:=hi
 refine ⟨_,?_,BO hg⟩
 have hst:=run_storeCells_at P g n e (bs ys) 0 C w hg (by rw [iI];omega) (Dj ys)
 simp only [KH] at hst
 have hs2:Src P i.size tx x ys.length (bs ys) w:=by rw [h2];exact hs
 have hrun:(I8 #[t,tx] ty #[.slice (some ⟨g,0,none⟩) n c,x]).run P w=.ok (.slice (some ⟨g,0,none⟩) (n+ys.length) c) (w.setRow g (lK C n (bs ys))):=by
  unfold lK
  rcases hs.kind with ⟨e',hk⟩ | hk<;>simp [I8,run_underlying ht,run_underlying hk,sizeOf,typeInfo,h1,h2,hs.len,hr,hs.cells,JD,hst]
 rw [IY,hrun]
 rfl
theorem app_grow {tx:LZ} (ht:P.underlying t=some (.slice e)) (hi:vI P e) {n:Nat} {olds:List LW}
 (ho:(Jl 1 n (.slice a n c)).run P w.drew=.ok olds.toArray w.drew) (hs:Src P 1 tx x ys.length (bs ys) w) (hr:c<n+ys.length) (hm:n+ys.length<=140737488351232) :
 ∃ k w',(do pure (IL (<- I8 #[t,tx] ty #[.slice a n c,x])):Sem Next).run P w=.ok (.value (.slice (some ⟨w.heap.size,0,none⟩) (n+ys.length) (n+ys.length+k))) w'/\Ew w w' (.cells ((olds++bs ys).toArray++zB k) e (0,0)):=by
 obtain ⟨i,h1,h2,h3,h4⟩:=hi
 have hge:=grownCap_ge w (n+ys.length) c e
 have hs2:Src P i.size tx x ys.length (bs ys) w:=by grind
 have hrun:=run_append_grow_src (P:=P) w t tx ty e i (.int .u8 0) ht h1 h4 a n c olds (by grind) x ys.length (bs ys) hs2 hr om (growslice_fits hr (by grind))
 refine ⟨grownCap w (n+ys.length) c e-(n+ys.length),w.drew.alloc (.cells ((olds++bs ys).toArray++zB (grownCap w (n+ys.length) c e-(n+ys.length))) e),?_,⟨rfl,rfl,rfl,rfl⟩⟩
 rw [IY,hrun]
 rw [show (n+ys.length+(grownCap w (n+ys.length) c e-(n+ys.length)))=grownCap w (n+ys.length) c e by omega,<- zero_zB]
 rfl
theorem first_nil:(Jl 1 0 (.slice none 0 0)).run P w=.ok ([]:List LW).toArray w:=rfl
theorem first_row {n:Nat} {T:LZ} (hg:w.heap[g]? = some (.cells C T fr)) (hn:n<=C.size):(Jl 1 n (.slice (some ⟨g,0,none⟩) n c)).run P w=.ok (C.toList.take n).toArray w:=by
 refine run_firstCells_some w 1 n ⟨g,0,none⟩ n c (C.toList.take n) (by grind) (fun j v hv=>?_)
 rw [JD]
 unfold Jo
 simp [*]
 rw [Jr] at hv
 split at hv
 ·simpa using hv
 ·exact absurd hv (by simp)
theorem copy_row {tx:LZ} (ht : P.underlying t = some (.slice e)) (hi : vI P e) {n:Nat} {T : LZ} (hg : w.heap[g]? = some (.cells C T (0, 0)))
 (hb:Bs w a d xs) (hm:m=xs.length) (hn:n<=C.size) :
 ∃ w',(do pure (IL (<- Ld #[t,tx] ty #[.slice (some ⟨g,0,none⟩) n c,.slice a m d])):Sem Next).run P w=.ok (.value (goInt (Nat.min xs.length n))) w'/\DR w w' g (.cells (lK C 0 (bs (xs.take n))) T (0,0)):=by
 subst hm
 obtain ⟨i,h1,h2,h3,h4⟩:=hi
 refine ⟨_,?_,BO hg⟩
 have hlen:(bs (xs.take n)).length=Nat.min xs.length n:=by rw [iI,JW];exact Nat.min_comm _ _
 have hst:=run_storeCells_at P g 0 T (bs (xs.take n)) 0 C w hg (by grind) (Dj _)
 have hfc:(Jl 1 (Nat.min xs.length n) (.slice a xs.length d)).run P w=.ok (bs (xs.take n)).toArray w:=by
  cases a with
  | none =>
    have h0:xs=[]:=by
     rcases hb.rows with h0 | ⟨p,hp,_⟩
     ·exact JM.1 h0
     ·exact absurd hp (by simp)
    subst h0
    simp [Jl,bs]
  | some p =>
    refine run_firstCells_some w 1 _ p _ d (bs (xs.take n)) om (fun j v hv=>?_)
    rcases hb.rows with h0 | ⟨p',hp,hh⟩
    ·have h0' : xs = [] := JM.1 h0
     subst h0'
     simp [bs] at hv
    ·obtain rfl : p = p' := by simpa using hp
     apply hh j v
     unfold bs at hv ⊢
     rw [La,Jr] at hv
     split at hv
     ·exact hv
     ·exact absurd hv (by simp)
 have hrun:(Ld #[t,tx] ty #[.slice (some ⟨g,0,none⟩) n c,.slice a xs.length d]).run P w=.ok (goInt (Nat.min xs.length n)) (w.setRow g (lK C 0 (bs (xs.take n)))):=by
  unfold lK
  simp [Ld,run_underlying ht,Builtin.lenOf,sizeOf,typeInfo,h1,h2,hfc,hst]
 rw [IY,hrun]
 rfl
theorem make_row (ht:P.underlying t=some (.slice e)) (hi:vI P e) {kl kc:Mc} {n:Nat} (hn:n<=c) (hc:c<=140737488351232) (w:LX) :
 ∃ k w',(do pure (IL (<- Instr.makeSlice t (.int kl (n:Int)) (.int kc (c:Int)))):Sem Next).run P w=.ok (.value (.slice (some ⟨([w.heap.size,k]:List Nat).headD 0,0,none⟩) n c)) w'/\Ew w w' (.cells (zB c) e (0,0)):=by
 obtain ⟨i,h1,h2,h3,h4⟩:=hi
 have hr:=run_make w t e i _ ht h1 h4 kl kc n c om om (by grind) om
 refine ⟨0,w.alloc (.cells (zB c) e),?_,⟨rfl,rfl,rfl,rfl⟩⟩
 rw [IY,hr]
 simp [*]
 rw [<- made_zB]
 rfl
theorem nO (ht:P.underlying t=some (.slice e)) (hi:vI P e) {z:Int} (hb:Bs w a c xs) (hm:m=xs.length) (hz:z=(j:Int)) (hj:j<xs.length) :
 (do pure (IL (<- Jm t (.slice a m c) (.int k z))):Sem Next).run P w=.ok (.value (.pointer (zM a j))) w:=by
 subst hm hz
 obtain ⟨p,rfl,_⟩:=hb.cell hj
 have hs:=sizeOf_u8 hi w
 simp [Jm,asIntOf,run_underlying ht,hj,hs,zM]
theorem pU (ha:∀ w,(isAgg e).run P w=.ok false w) (hb:Bs w a c xs) (hj:j<xs.length) :
 (do pure (IL (<- Jh e (.pointer (zM a j)))):Sem Next).run P w=.ok (.value (.int .u8 (gB xs j:Int))) w:=by
 obtain ⟨p,rfl,hp⟩:=hb.cell hj
 simp [zM,Ju,Jh,Jq,loadVar,IY,Jn,Ja,ha,Jf,if_false,load,JO,hp]
theorem Bv (ht:P.underlying t=some (.slice e)) (hi:vI P e) {lo hi':Option LW} {l k:Nat} (hb:Bs w a c xs) (hm:m=xs.length)
 (hlo:lo=none/\l=0\/lo=some (.int .i64 (l:Int))) (hhi:hi'=none/\k=xs.length\/hi'=some (.int .i64 (k:Int))) (hl:l<=k) (hk:k<=xs.length) :
 (do pure (IL (<- Instr.sliceAt t (.slice a m c) lo hi' none)):Sem Next).run P w=.ok (.value (.slice (yI a l c) (nT xs l k).length (c-l))) w:=by
 subst hm
 have hle:=hb.le
 have hs:=sizeOf_u8 hi w
 have h1:l<=k:=om
 have h2:k<=c:=om
 rw [oJ xs l k hk]
 have hb1:(JG true xs.length c lo hi' none).run P w=.ok (l,k,c) w:=by
  rcases hlo with ⟨rfl,rfl⟩ | rfl
  ·rcases hhi with ⟨rfl, rfl⟩ | rfl
   ·simp [JG]
   ·simp [JG,KE,asIntOf,h2]
  ·rcases hhi with ⟨rfl, rfl⟩ | rfl
   ·simp [JG,KE,asIntOf,h1]
   ·simp [JG,KE,asIntOf,h1,h2]
 simp [Instr.sliceAt,Instr.slice,run_underlying ht,hs,yI,zM,hb1]
def dH (xs:LU):ByteArray:=⟨xs.toArray⟩
theorem CE {ts:LZ} (ht:P.underlying t=some (.slice e)) (he:P.underlying e=some (.int .u8)) (hd:P.underlying ts=some .string) (hb:Bs w a c xs) (hm:m=xs.length) :
 (do pure (IL (<- convert t ts (.slice a m c))):Sem Next).run P w=.ok (.value (.string (dH xs))) w:=by
 subst hm
 cases a with
 | none =>
   have h0:xs=[]:=by
    rcases hb.rows with h0 | ⟨p,hp,_⟩
    ·exact JM.1 h0
    ·exact absurd hp (by simp)
   subst h0
   simp [run_convert_bytes_string w t ts e none _ c ht he hd,dH]
   rfl
 | some p =>
   rw [IY,run_convert_bytes_back w t ts e p c xs ht he hd]
   ·rfl
   ·intro j hj
    obtain ⟨p',hp,hc⟩:=hb.cell hj
    obtain rfl:p=p':=by grind
    rw [hc]
    simp [gB,IR hj]
def Hd (C:Array LW) (xs:LU):Prop:=C.toList.take xs.length=bs xs
theorem Hd.size (h:Hd C xs):xs.length<=C.size:=by
 have:=congrArg JP h
 rw [iI] at this
 simp at this
 omega
theorem Hd.nil (C:Array LW):Hd C []:=rfl
theorem Hd.all (xs:LU):Hd (bs xs).toArray xs:=by
 unfold Hd
 rw [<- iI]
 simp
theorem qR (C:Array LW) (o:Nat) (vs:List LW) (h:o+vs.length<=C.size):(lK C o vs).size=C.size:=by
 simp [lK]
 omega
theorem Hd.lK (h:Hd C xs) {n:Nat} (hn:n=xs.length):Hd (lK C n (bs ys)) (xs++ys):=by
 subst hn
 unfold Hd at h ⊢
 unfold YtegagmoldjiaaaaGreatDoor.lK
 rw [h,bs_app,I7]
 have:xs.length+ys.length=(bs xs++bs ys).length:=by rw [I7,iI,iI]
 rw [this]
 simp only [JQ]
 rw [<- JQ,JR]
theorem Hd.grow (h:Hd C xs) {k n:Nat} (hn:n=xs.length):Hd (grow C n (bs ys) k) (xs++ys):=by
 subst hn
 unfold Hd at h ⊢
 unfold YtegagmoldjiaaaaGreatDoor.grow
 rw [h,bs_app,I7]
 have:xs.length+ys.length=(bs xs++bs ys).length:=by rw [I7,iI,iI]
 rw [this]
 simp only [J8,JQ]
 rw [<- JQ,JR]
theorem grow_size {n:Nat} {k:Nat} (h:n<=C.size):(grow C n (bs ys) k).size=n+ys.length+k:=by
 simp [grow,bs,zB]
 omega
theorem Bs.o7 {T:LZ} (hb:w.heap[g]? = some (.cells C T fr)) (hx:Hd C xs) (hc:xs.length<=c) (hm:xs.length<=140737488351232):Bs w (some ⟨g,0,none⟩) c xs :=
 Bs.xB hb hx hc hm
theorem St.fresh {w0:nN} {h:List (Nat × Obj)} {F:LX->Prop} (hS:St w0 h F w) {T:LZ} (hg:(g,.cells C T fr)∈h) (hx:Hd C xs) (hc:xs.length<=c) (hm:xs.length<=140737488351232) (hw:g ∉ w0.ws:=by exact List.not_mem_nil):Fs w0.w w (some ⟨g,0,none⟩) c xs:=by
 refine ⟨Bs.o7 (hS.at_ _ hg).2 hx hc hm,fun p hp _=>?_⟩
 obtain rfl:(⟨g,0,none⟩:Addr)=p:=by grind
 exact (hS.at_ _ hg).1.resolve_right hw
end
def oa (ρ:Nat->bT) (i:Nat):OA:=(ρ i).a
def ob (x:Int):UInt8:=UInt8.ofNat x.toNat
theorem ob_nat {x:Int} (h:0<=x/\x<256):((ob x).toNat:Int)=x:=by
 unfold ob
 rw [UInt8.toNat_ofNat']
 omega
theorem bv_ob {x:Int} (h:0<=x/\x<256):bv (ob x)=.int .u8 x:=by
 unfold bv
 rw [ob_nat h]
theorem hd1 {x:Int} (h:0<=x/\x<256):Hd #[.int .u8 x] [ob x]:=by
 simp [Hd,bs,bv_ob h]
theorem hd2 {x y:Int} (h:0<=x/\x<256) (h':0<=y/\y<256):Hd #[.int .u8 x,.int .u8 y] [ob x,ob y]:=by
 simp [Hd,bs,bv_ob h,bv_ob h']
theorem Hd.take (h:Hd C xs) (k:Nat):Hd C (xs.take k):=by
 unfold Hd at h ⊢
 unfold bs at h ⊢
 rw [La,<- h,List.take_take,JW]
theorem rC {w0:LX} (e:xs=ys) (h:Fs w0 w a c xs):Fs w0 w a c ys:=e ▸ h
theorem vX {n:Nat} (h:xs.length+ys.length<=n):(xs++ys).length<=n:=by grind
theorem yM {n:Nat} (hc:C.size=c) (h:n+ys.length<=c):n+(bs ys).length<=C.size:=by rw [iI,hc];exact h
theorem yB {k:Nat} (h:Hd C xs):(grow C xs.length (bs ys) k).size=(xs++ys).length+k:=by
 rw [grow_size h.size,I7]
section
variable {P:LY} {t e:LZ}
theorem qL {tx:LZ} (ht:P.underlying t=some (.slice e)) (hi:vI P e) (hg:w.heap[g]? = some (.cells C e (0,0)))
 (hs:Src P 1 tx x ys.length (bs ys) w) (hc:C.size=c) (hr:xs.length+ys.length<=c) :
 ∃ w',(do pure (IL (<- I8 #[t,tx] ty #[.slice (some ⟨g,0,none⟩) xs.length c,x])):Sem Next).run P w=.ok (.value (.slice (some ⟨g,0,none⟩) (xs++ys).length c)) w'/\DR w w' g (.cells (lK C xs.length (bs ys)) e (0,0)):=by
 rw [I7]
 exact app_room ht hi hg hs hr om
theorem zZ {tx:LZ} (ht:P.underlying t=some (.slice e)) (hi:vI P e) (hg:w.heap[g]? = some (.cells C e (0,0)))
 (hs:Src P 1 tx x ys.length (bs ys) w) (hc:C.size=c) (hx:xs.length<=c) (hr:c<xs.length+ys.length) (hm:xs.length+ys.length<=140737488351232) :
 ∃ k w',(do pure (IL (<- I8 #[t,tx] ty #[.slice (some ⟨g,0,none⟩) xs.length c,x])):Sem Next).run P w=.ok (.value (.slice (some ⟨w.heap.size,0,none⟩) (xs++ys).length ((xs++ys).length+k))) w'/\Ew w w' (.cells (grow C xs.length (bs ys) k) e (0,0)):=by
 rw [I7]
 exact app_grow ht hi (first_row hg om) hs hr hm
theorem Em {tx:LZ} (ht:P.underlying t=some (.slice e)) (hi:vI P e)
 (hs:Src P 1 tx x ys.length (bs ys) w) (hr:0<ys.length) (hm:ys.length<=140737488351232) :
 ∃ k w',(do pure (IL (<- I8 #[t,tx] ty #[.slice none 0 0,x])):Sem Next).run P w=.ok (.value (.slice (some ⟨w.heap.size,0,none⟩) ys.length (ys.length+k))) w'/\Ew w w' (.cells ((bs ys).toArray++zB k) e (0,0)):=by
 have:=app_grow (ty:=ty) ht hi first_nil hs om om
 simpa using this
theorem Hd.fresh (ys:LU) (k:Nat):Hd ((bs ys).toArray++zB k) ys:=by
 unfold Hd
 rw [<- iI]
 simp
theorem Aj (ys:LU) (k:Nat):((bs ys).toArray++zB k).size=ys.length+k:=by simp [bs,zB]
theorem yH (ht:P.underlying t=some (.slice e)) (hi:vI P e) {kl kc:Mc} {n c:Int} {c':Nat} (xs:LU) (hx:n=(xs.length:Int)) (hc':c=(c':Int)) (hn:xs.length<=c') (hc:c'<=140737488351232) (w:LX) :
 ∃ k w',(do pure (IL (<- Instr.makeSlice t (.int kl n) (.int kc c))):Sem Next).run P w=.ok (.value (.slice (some ⟨([w.heap.size,k]:List Nat).headD 0,0,none⟩) xs.length c')) w'/\Ew w w' (.cells (zB c') e (0,0)):=by
 subst hx hc'
 exact make_row ht hi hn hc w
structure Ap (C:Array LW) (xs:LU) (c:Nat):Prop where
 hd:Hd C xs
 le:xs.length<=c
 max:xs.length<=140737488351232
 size:C.size=c
theorem Ap.mk' (h1:Hd C xs) (h2:xs.length<=c) (h3:xs.length<=140737488351232) (h4:C.size=c):Ap C xs c:=⟨h1,h2,h3,h4⟩
def objC:Obj->Array LW
 | .cells C _ _=>C
 | _=> #[]
def uO (r:bT):Array LW:=objC (r.o.headD (.cells #[] 0 (0,0)))
def oc (ρ:Nat->bT) (i:Nat):Array LW:=uO (ρ i)
theorem app_any {tx:LZ} (ht:P.underlying t=some (.slice e)) (hi:vI P e) (hA:Ap C xs c) (hs:Src P 1 tx x ys.length (bs ys) w) (hm:xs.length+ys.length<=140737488351232) (hg:w.heap[g]? = some (.cells C e (0,0))) :
 ∃ r w',(do pure (IL (<- I8 #[t,tx] ty #[.slice (some ⟨g,0,none⟩) xs.length c,x])):Sem Next).run P w=.ok (.value (.slice (some ⟨r.n.headD 0,0,none⟩) (xs++ys).length (r.n.tail.headD 0))) w'/\Ap (uO r) (xs++ys) (r.n.tail.headD 0)/\H8 w w' g (r.n.headD 0) (.cells (uO r) e (0,0)):=by
 by_cases hr:xs.length+ys.length<=c
 ·obtain ⟨w', h1, h2⟩ := qL ht hi hg hs hA.size hr
  refine ⟨{ n:=[g,c],o:=[.cells (lK C xs.length (bs ys)) 0 (0,0)]},w',h1,⟨Hd.lK hA.hd rfl,vX hr,vX hm,(qR _ _ _ (yM hA.size hr)).trans hA.size⟩,.stay rfl h2⟩
 ·obtain ⟨k, w', h1, h2⟩ := zZ ht hi hg hs hA.size hA.le om hm
  refine ⟨{ n:=[w.heap.size,(xs++ys).length+k],o:=[.cells (grow C xs.length (bs ys) k) 0 (0,0)]},w',h1,⟨Hd.grow hA.hd rfl,KF _ _,vX hm,yB hA.hd⟩,.grow rfl h2⟩
theorem Bz (ht:P.underlying t=some (.slice e)) (hi:vI P e) {z:Int} (hz:z=(j:Int)) (hj:j<m) (w:LX) :
 (do pure (IL (<- Jm t (.slice (some ⟨g,0,none⟩) m c) (.int k z))):Sem Next).run P w=.ok (.value (.pointer (some ⟨g,j,none⟩))) w:=by
 subst hz
 have:=BC (len:=m) (cap:=c) (g:=g) (off:=0) (k:=k) (n:=j) ht (sizeOf_u8 hi) om om w
 simpa using this
theorem nK (hu:P.underlying t=some .string) {S:LU} {z:Int} (hz:z=(j:Int)) (hj:j<S.length) (w:LX) :
 (do pure (IL (<- Instr.index t (.string (dH S)) (.int k z))):Sem Next).run P w=.ok (.value (.int .u8 (gB S j:Int))) w:=by
 subst hz
 have hlt:=hj
 have hs:(dH S)[j]? = some (S.getD j 0):=by
  rw [getElem?_pos (dH S) j hlt]
  rw [List.getD,IR hj]
  rfl
 simp [Instr.index,asIntOf,run_underlying hu,hs,gB]
theorem eql_str (X Y:LU) (w:LX):(binOp .eql t (.string (dH X)) (.string (dH Y))).run P w=.ok (.bool (decide (X=Y))) w:=by
 have e:((dH X).toList==(dH Y).toList)=decide (X=Y):=by
  rw [Bool.eq_iff_iff,KY]
  simp [dH]
 simp only [binOp,Op.stringOp,e]
 rfl
theorem Dw (X Y:LU) (w:LX):(binOp .neq t (.string (dH X)) (.string (dH Y))).run P w=.ok (.bool (!decide (X=Y))) w:=by
 have e:((dH X).toList==(dH Y).toList)=decide (X=Y):=by
  rw [Bool.eq_iff_iff,KY]
  simp [dH]
 simp only [binOp,Op.stringOp,e]
 rfl
end
theorem strB_self (s:ByteArray):dH s.data.toList=s:=rfl
def hL (A:Nat):LU:=(Jd 32).map fun i=>ob (DD A i)
theorem aT (A:Nat):(hL A).length=32:=rfl
theorem DK (A:Nat):Hd (hB A) (hL A):=by
 unfold Hd hL hB bs
 rw [KN,Lr]
 have e:(Jd 32).map (bv ∘ fun i=>ob (DD A i))=(Jd 32).map fun i=>JV .u8 (DD A i):=by
  apply J9
  intro i _
  exact bv_ob ⟨Az A i,byt_lt A i⟩
 rw [e]
 rfl
def nB (xs:LU):Nat:=xs.foldl (fun a x=>a*256+x.toNat) 0
theorem nB_snoc (xs:LU) (x:UInt8):nB (xs++[x])=nB xs*256+x.toNat:=by simp [nB]
theorem snoc_ind {p:LU->Prop} (h0:p []) (h1:∀ xs x,p xs->p (xs++[x])):∀ xs,p xs:=by
 have key:∀ n xs,xs.length=n->p xs:=by
  intro n
  induction n with
  | zero=>intro xs hx;rw [J5 hx];exact h0
  | succ n ih =>
    intro xs hx
    have hne:xs≠[]:=by grind
    rw [<- List.dropLast_concat_getLast hne]
    exact h1 _ _ (ih _ (by grind))
 exact fun xs=>key _ xs rfl
theorem nB_lt (xs:LU):nB xs<256^xs.length:=by
 refine snoc_ind (p:=fun xs=>nB xs<256^xs.length) (by simp [nB]) ?_ xs
 intro xs x ih
 rw [nB_snoc,I7,KQ]
 have:=x.toNat_lt
 omega
theorem nB_byte (xs:LU):∀ i,i<xs.length->nB xs / 256^(xs.length-1-i)%256=gB xs i:=by
 refine snoc_ind (p:=fun xs=>∀ i,i<xs.length->nB xs / 256^(xs.length-1-i)%256=gB xs i) (fun i h=>absurd h (by simp)) ?_ xs
 intro xs x ih i hi
 rw [I7,KQ] at hi ⊢
 rw [nB_snoc]
 have hx:=x.toNat_lt
 by_cases h:i<xs.length
 ·have e : xs.length + 1 - 1 - i = (xs.length - 1 - i) + 1 := by omega
  rw [e,Nat.pow_succ,Nat.mul_comm (256^_) 256,<- JC,show (nB xs*256+x.toNat) / 256=nB xs by omega,ih i h]
  simp [gB,Kz h]
 ·have e : i = xs.length := by omega
  subst e
  simp [gB]
theorem hB_nB (h:xs.length=32):(bs xs).toArray=hB (nB xs):=by
 apply hB_ext
 ·simp [bs,h]
 ·intro j hj
  have hb:=nB_byte xs j om
  rw [h] at hb
  have hj':j<xs.length:=om
  unfold DD
  rw [hb]
  simp [bs,bv,gB,IR hj']
theorem nB_M (h:xs.length=32):nB xs<M:=by
 have:=nB_lt xs
 rw [h] at this
 exact this
theorem hL_nB (h:xs.length=32):hL (nB xs)=xs:=by
 have h1:=DK (nB xs)
 rw [<- hB_nB h] at h1
 unfold Hd at h1
 rw [aT] at h1
 have h2:bs xs=bs (hL (nB xs)):=by
  rw [<- h1]
  rw [List.take_of_length_le (by simp [bs,h])]
 have inj:∀ a b:UInt8,bv a=bv b->a=b:=by
  intro a b hab
  unfold bv at hab
  simp at hab
  exact UInt8.toNat.inj om
 exact ((List.map_inj_right (fun a b=>inj a b)).1 h2).symm
theorem copy_hash (h:32<=xs.length):lK (hB 0) 0 (bs (xs.take 32))=hB (nB (xs.take 32)):=by
 have hl:(xs.take 32).length=32:=by grind
 rw [<- hB_nB hl]
 unfold lK
 have:(0+(bs (xs.take 32)).length)=32:=by rw [iI,hl]
 rw [this]
 simp
 rw [vY];exact JY _
end
section
section
variable {P:LY} {ops:Array Me} {D:List Nat} {l:List (Nat × LW)} {w0:nN} {h:List (Nat × Obj)} {F0:LX→Prop}
variable {vals:(Nat→bT)→Nat→LW} {effs:(Nat→bT)→Nat→qJ} {fact:(Nat→bT)→Nat→LX→Prop}
theorem o_callN (i:Nat) (f:Md) (args:(Nat->bT)->Array LW) (v:(Nat->bT)->Nat->LW) (ob:(Nat->bT)->Obj)
 (hc:∀ ρ z,iG P ops D l (vals ρ) i z=some (.enter f (args ρ),[],[]))
 (hv:∀ ρ g,vals (dU ρ i { n:=[g]}) i=v ρ g) (he:∀ ρ g,effs (dU ρ i { n:=[g]}) i={ news:=[(g,ob ρ)]}) (ht:∀ ρ w,fact ρ i w)
 (hf:∀ ρ T w,iM ops D w0 h F0 effs fact i ρ T w->Calls P f (args ρ) w (fun e w'=>∃ g,e=.returned (v ρ g)/\Below w.heap.size w w'/\w.heap.size<=g/\w'.heap[g]? = some (ob ρ))):mW P ops D l w0 h F0 vals effs fact i:=by
 have key:∀ ρ z,((ops[i]?).isSome=true/\nD (vals ρ) (iR ops i)=true)/\uN P (execOp (eX ops D l (vals ρ) i) (iR ops i)) [] [] z=some (.enter f (args ρ),[],[]):=by
  intro ρ z
  have h1:=hc ρ z
  unfold iG at h1
  split at h1
  ·rename_i hb
   simp only [II] at hb
   exact ⟨hb,h1⟩
  ·exact absurd h1 (by simp)
 intro o ho ρ T w hG
 have hoe:=lN (key ρ []).1.1
 rw [ho] at hoe
 obtain rfl:o=iR ops i:=by grind
 rw [if_pos (key ρ []).1.2]
 obtain ⟨w1,h1,_,_,h4,_,_⟩:=uK (execOp (eX ops D l (vals ρ) i) (iR ops i)) [] [] w _ _ _ (by intro y hy;simp at hy) (by simp) ((key ρ _).2) trivial
 have hb:Below w.heap.size w w1:=⟨h4.os,h4.tape,h4.output,h4.size,fun k hk=>h4.block k hk (by simp)⟩
 have hheap:= fun b hb'=>hb.block b hb'
 have hG1:iM ops D w0 h F0 effs fact i ρ T w1:=by
  have tr:∀ {F:LX->Prop},bZ T F w->bZ T F w1:=by
   rintro F ⟨S,s1,s2⟩
   refine ⟨S,fun b hb'=>⟨IZ (s1 b hb').1 hb.size,(s1 b hb').2⟩,fun w' hw=>s2 w' (fun b hb'=>?_)⟩
   rw [hw b hb',hheap b (s1 b hb').1]
  refine ⟨fun b hb'=>IZ (hG.lt b hb') hb.size,hG.aS.trans (pG.vU hb),fun n x hn hk=>?_,hG.ne,tr hG.iE,fun j hj=>tr (hG.facts j hj)⟩
  have:=hG.block n x hn hk
  refine ⟨?_,this.2⟩
  rw [hheap _ (hG.lt _ this.2.1)]
  exact this.1
 unfold opv
 rw [h1]
 refine (hf ρ T w1 hG1).mono (fun e w2 hew=>?_)
 obtain ⟨g,rfl,hb2,hg,hgo⟩:=hew
 have he':=he ρ g
 refine ⟨{ n:=[g]},(hv ρ g).symm,pG.vU (hb.trans (hb2.mono hb.size)),?_,?_,?_,dL (ht _)⟩
 ·rw [he'];intro n q hm;simp at hm
 ·rw [he']
  intro j b q hj
  have:=by
   have:=(IQ.1 hj).1
   simpa using this
  subst this
  obtain ⟨rfl,rfl⟩:=hj
  exact ⟨JA hb.size hg,hgo⟩
 ·rw [he'];simp
end
theorem St.newb {w0:nN} {h:List (Nat × Obj)} {F:LX->Prop} (hS:St w0 h F w) (hg:(g,o)∈h) (hw:g ∉ w0.ws:=by exact List.not_mem_nil):w0.w.heap.size<=g/\w.heap[g]? = some o:=⟨(hS.at_ _ hg).1.resolve_right hw,(hS.at_ _ hg).2⟩
theorem Hd.eq (h:Hd C xs) (hs:C.size=xs.length):C=(bs xs).toArray:=by
 apply Array.ext'
 unfold Hd at h
 rw [<- hs,<- KX,List.take_length] at h
 rw [h]
theorem mt_facts {R:Act->LX->Prop} {l:List (Nat × LW)} {w0:nN} {h:List (Nat × Obj)} {F:LX->Prop} (G:LX->Prop) (hp:∀ w,F w->G w) (hk:mY R n l w0 h G):mY R n l w0 h F :=
 fun A w hf hs=>hk A w hf (hs.dP hp)
theorem cell_blk {T:LZ} (h:w.heap[g]? = some (.cells C T fr)) (j:Nat):w.cell? ⟨g,j,none⟩=C[j]? := cell_of_row w g j C _ _ h
def Kb (w:LX) (g:Nat) (C:Array LW):Prop:=∀ i v,C[i]? = some v->w.cell? ⟨g,i,none⟩=some v
theorem Kb.xB {T:LZ} (h:w.heap[g]? = some (.cells C T fr)):Kb w g C:=fun i _ hv=>(cell_blk h i).trans hv
theorem cell_some_lt {v:LW} (h:w.cell? ⟨g,i,none⟩=some v):g<w.heap.size:=by
 by_cases hl:g<w.heap.size
 ·exact hl
 ·have hn : w.heap[g]? = none := I5 om
  unfold Jo at h
  simp [hn] at h
theorem Kb.dW (h:Kb w g C):bZ (fun _=>False) (fun w=>Kb w g C) w:=by
 by_cases hz:∃ (i:Nat) (v:LW),C[i]? = some v
 ·obtain ⟨i, v, hv⟩ := hz
  exact ⟨fun b=>b=g,fun b hb=>⟨by rw [hb];exact cell_some_lt (h i v hv),id⟩,fun w' hw i v hv=>(cell_congr (hw g rfl)).trans (h i v hv)⟩
 ·exact ⟨fun _=>False,fun b hb=>hb.elim,fun w' _ i v hv=>absurd ⟨i,v,hv⟩ hz⟩
section
variable {P:LY} {t e:LZ}
theorem EG {off:Nat} {v:LW} (ha:∀ w,(isAgg e).run P w=.ok false w) (h:Kb w g C) (hv:C[off]? = some v) :
 (do pure (IL (<- Jh e (.pointer (some ⟨g,off,none⟩)))):Sem Next).run P w=.ok (.value v) w:=by
 have hp:=h off v hv
 simp [Jh,Jq,loadVar,IY,Jn,Ja,ha,Jf,if_false,load,JO,hp]
theorem ld_blkA {off:Nat} {vs:List LW} (ha:∀ w,(isAgg e).run P w=.ok true w) (hs:∀ w,(sizeOf e).run P w=.ok n w) (h:Kb w g C) (hn:vs.length=n) (hv:∀ j,j<n->C[off+j]? = vs[j]?) :
 (do pure (IL (<- Jh e (.pointer (some ⟨g,off,none⟩)))):Sem Next).run P w=.ok (.value (.agg vs.toArray)) w:=by
 have hl:=run_loadCells_list (P:=P) w ⟨g,off,none⟩ vs (fun j v hj=>by
  rw [JD]
  have hj':j<n:=by grind
  exact h _ _ ((hv j hj').trans hj))
 rw [hn] at hl
 simp [Jh,Jq,loadVar,IY,Jn,Ja,ha,if_true,hs,hl]
theorem Eo {T:LZ} (ha:∀ w,(isAgg e).run P w=.ok true w) (hs:∀ w,(sizeOf e).run P w=.ok n w) (h:w.heap[g]? = some (.cells C T fr)) (hn:C.size=n) :
 (do pure (IL (<- Jh e (.pointer (some ⟨g,0,none⟩)))):Sem Next).run P w=.ok (.value (.agg C)) w:=by
 have h1:=ld_blkA ha hs (Kb.xB h) om (fun j _=>by rw [Lt];simp)
 exact h1
theorem arr_bytes {el:LZ} (hu:P.underlying t=some (.array n el)) (hm:n<=m) :
 (do pure (IL (<- Instr.arrayAt t (.slice a m c))):Sem Next).run P w=.ok (.value (.pointer a)) w:=by
 simp [Instr.arrayAt,IY,run_underlying hu,Ja,if_neg (by omega: ¬ m<n),Jn]
theorem ld_arr (ha:∀ w,(isAgg t).run P w=.ok true w) (hs:∀ w,(sizeOf t).run P w=.ok n w) (hb:Bs w a c xs) (hn:n<=xs.length) (h0:0<n) :
 (do pure (IL (<- Jh t (.pointer a))):Sem Next).run P w=.ok (.value (.agg (bs (xs.take n)).toArray)) w:=by
 rcases hb.rows with h | ⟨p,rfl,hp⟩
 ·have := congrArg JP h
  rw [iI] at this
  have h1:xs.length=0:=this
  omega
 ·have hl := run_loadCells_list (P := P) w p (bs (xs.take n)) (fun j v hj => by
   refine hp j v ?_
   unfold bs at hj ⊢
   rw [I9,Jr] at hj
   rw [I9]
   split at hj
   ·exact hj
   ·exact absurd hj (by simp))
  rw [iI,JW,KO hn] at hl
  simp [Jh,Jq,loadVar,IY,Jn,Ja,ha,if_true,hs,hl]
end
section
variable {P:LY} {ops:Array Me} {D:List Nat} {l:List (Nat × LW)} {w0:nN} {h:List (Nat × Obj)} {F0:LX→Prop}
variable {vals:(Nat→bT)→Nat→LW} {effs:(Nat→bT)→Nat→qJ} {fact:(Nat→bT)→Nat→LX→Prop}
theorem o_newF (i:Nat) (s:(Nat->bT)->Sem Next) (v:(Nat->bT)->OA->Nat->LW) (xs:(Nat->bT)->LU)
 (hc:∀ ρ r,zD ops (vals ρ) (vals (dU ρ i r) i) (effs (dU ρ i r) i) i=some (v ρ r.a (r.n.headD 0),{}))
 (hx:∀ ρ,execOp (eX ops D l (vals ρ) i) (iR ops i)=s ρ) (ht:∀ ρ r,fact (dU ρ i r) i=fun w=>Fs w0.w w r.a (r.n.headD 0) (xs ρ))
 (hr:∀ ρ T w,iM ops D w0 h F0 effs fact i ρ T w->∃ a c w' o,(s ρ).run P w=.ok (.value (v ρ a c)) w'/\Ew w w' o/\Fs w w' a c (xs ρ)):mW P ops D l w0 h F0 vals effs fact i:=by
 have key:∀ ρ r,((ops[i]?).isSome=true/\nD (vals ρ) (iR ops i)=true)/\v ρ r.a (r.n.headD 0)=vals (dU ρ i r) i/\effs (dU ρ i r) i={}:=by
  intro ρ r
  have h1:=hc ρ r
  unfold zD at h1
  split at h1
  ·rename_i hb
   simp only [II] at hb
   simp only [Jw.injEq,Ls.injEq] at h1
   exact ⟨hb,h1.1.symm,h1.2⟩
  ·exact absurd h1 (by simp)
 intro o ho ρ T w hG
 have hoe:=lN (key ρ {}).1.1
 rw [ho] at hoe
 obtain rfl:o=iR ops i:=by grind
 rw [if_pos (key ρ {}).1.2]
 obtain ⟨a,c,w',o',hrun,hgr,hF⟩:=hr ρ T w hG
 unfold opv
 rw [hx ρ,hrun]
 have hk:=key ρ { n:=[c],a:=a}
 refine ⟨{ n:=[c],a:=a},hk.2.1,?_,?_,?_,?_,?_⟩
 ·refine ⟨hgr.os, hgr.tape, hgr.output, by rw [hgr.heap]; simp, fun b hb _ => ?_⟩
  rw [hgr.heap,Jz,if_neg om]
 ·rw [hk.2.2];intro n q hm;simp at hm
 ·rw [hk.2.2];intro k b q hk';simp at hk'
 ·rw [hk.2.2];simp
 ·rw [ht]
  refine ((hF.uC (fun b hb=>hb)).mono (fun _ hx'=>hx'.older hG.aS.size)).sub (fun b hbT=>?_)
  rw [hk.2.2] at hbT
  rcases hbT with hbT | hbT
  ·exact hG.lt b hbT
  ·simp at hbT
end
theorem EW {P:LY} {ts td e:LZ} (hs:P.underlying ts=some .string) (hd:P.underlying td=some (.slice e)) (he:P.underlying e=some (.int .u8)) (S:LU) (hm:S.length<=140737488351232) (w:LX) :
 ∃ a c w' o,(do pure (IL (<- convert ts td (.string (dH S)))):Sem Next).run P w=.ok (.value (.slice a S.length c)) w'/\Ew w w' o/\Fs w w' a c S:=by
 have hrun:=run_bytes_of_string w ts td e (dH S) hs hd he
 have hsz:(dH S).size=S.length:=rfl
 have hge:=grownCap_ge w S.length 0 e
 refine ⟨some ⟨w.heap.size,0,none⟩,grownCap w S.length 0 e,w.drew.alloc (.cells (bytesRow (dH S) (grownCap w S.length 0 e)) e ((bytesRow (dH S) (grownCap w S.length 0 e)).size,(bytesRow (dH S) (grownCap w S.length 0 e)).size+1)),_,?_,⟨rfl,rfl,rfl,rfl⟩,?_,?_⟩
 ·rw [IY,hrun];rfl
 ·refine Bs.xB (C := bytesRow (dH S) (grownCap w S.length 0 e)) (T := e) (fr := ((bytesRow (dH S) (grownCap w S.length 0 e)).size, (bytesRow (dH S) (grownCap w S.length 0 e)).size + 1)) (show (w.heap.push _)[w.heap.size]? = _ by simp) ?_ hge hm
  simp [bytesRow,dH,bs,bv]
 ·intro p hp _
  obtain rfl:(⟨w.heap.size,0,none⟩:Addr)=p:=by grind
  exact JY _
end
section
def fK (m:Nat) (p:Nat->Prop) (i:Nat):Prop:=∀ j,i<=j->j<m->p j
theorem cN {p:Nat->Prop} {i:Nat} (h:m<=i:=by exact Nat.le_of_ble_eq_true rfl):fK m p i:=fun _ h1 h2=>absurd h2 om
theorem cX {p:Nat->Prop} {i:Nat} (h:p i) (t:fK m p (i+1)):fK m p i:=fun j h1 h2=>by
 by_cases e:j=i
 ·rw [e];exact h
 ·exact t j om h2
def mv (f:(Nat->bT)->List LW) (ρ:Nat->bT) (i:Nat):LW:=(f ρ).getD i LV
def me (f:(Nat->bT)->List (Nat × qJ)) (ρ:Nat->bT) (i:Nat):qJ:=((f ρ).lookup i).getD {}
def mf (f:(Nat->bT)->List (Nat × (LX->Prop))) (ρ:Nat->bT) (i:Nat):LX->Prop:=((f ρ).lookup i).getD (fun _=>True)
def vget:List LW->Nat->LW
 | [],_=>LV
 | v::_,0=>v
 | _::r,i+1=>vget r i
theorem vget_eq:∀ (l:List LW) (i:Nat),vget l i=l.getD i LV
 | [],_=>rfl
 | _::_,0=>rfl
 | _::r,i+1=>by simpa [vget] using vget_eq r i
def xget (d : α) : List (Nat × α) -> Nat -> α
 | [],_=>d
 | (k, v) :: r, i => match i == k with
   | true=>v
   | false=>xget d r i
theorem xget_eq (d:α):∀ (l:List (Nat × α)) (i:Nat),xget d l i=(l.lookup i).getD d
 | [],_=>rfl
 | (k, v) :: r, i => by
   unfold xget
   rw [List.lookup_cons]
   cases i==k
   ·exact xget_eq d r i
   ·rfl
def AZ (f:(Nat->bT)->List LW) (g:(Nat->bT)->List (Nat × qJ)) (k:(Nat->bT)->List (Nat × (LX->Prop))) (ρ:Nat->bT):Nat->List (LW × qJ × (LX->Prop))
 | 0=>[]
 | i+1=>(mv f ρ i,me g ρ i,mf k ρ i)::AZ f g k ρ i
def A8 (D:List Nat) (f:(Nat->bT)->List LW) (g:(Nat->bT)->List (Nat × qJ)) (k:(Nat->bT)->List (Nat × (LX->Prop))) (ρ:Nat->bT):Nat->List (LW × qJ × (LX->Prop))
 | 0=>[]
 | i+1=>(vget (f (mask D i ρ)) i,xget {} (g (mask D i ρ)) i,xget (fun _=>True) (k (mask D i ρ)) i)::A8 D f g k ρ i
theorem loc_get {D:List Nat} {f:(Nat->bT)->List LW} {g:(Nat->bT)->List (Nat × qJ)} {k:(Nat->bT)->List (Nat × (LX->Prop))}:∀ {m:Nat},AZ f g k ρ m=A8 D f g k ρ m->∀ i,i<m->mv f ρ i=mv f (mask D i ρ) i/\me g ρ i=me g (mask D i ρ) i/\mf k ρ i=mf k (mask D i ρ) i
 | m + 1, h, i, hi => by
   obtain ⟨h1,h2⟩:=KD.inj h
   rcases (by omega:i=m\/i<m) with e | e
   ·subst e
    simp [Ls.injEq,vget_eq,xget_eq] at h1
    exact h1
   ·exact loc_get h2 i e
theorem Fa {D:List Nat} {f:(Nat->bT)->List LW} {g:(Nat->bT)->List (Nat × qJ)} {k:(Nat->bT)->List (Nat × (LX->Prop))} (h:∀ ρ,AZ f g k ρ m=A8 D f g k ρ m) (i:Nat) (hi:i<m):Loc D (mv f) (me g) (mf k) i:=by
 intro ρ ρ' hh
 have e:=mask_congr hh
 obtain ⟨a1,a2,a3⟩:=loc_get (h ρ) i hi
 obtain ⟨b1,b2,b3⟩:=loc_get (h ρ') i hi
 rw [a1,a2,a3,b1,b2,b3,e]
 exact ⟨rfl,rfl,rfl⟩
def dsq (m:Nat):List Nat:=(Jd m).map fun i=>2^i-1
def uU:List Nat->List α->List α
 | [],l=>l
 | _,[]=>[]
 | 0::s,_::l=>uU s l
 | _::s,x::l=>x::uU s l
theorem nX:∀ (s:List Nat) (l:List α),JB (uU s l) l
 | [],l=>JB.refl l
 | _::_,[]=>by simp [uU]
 | 0::s,x::l=>(nX s l).cons x
 | (_+1)::s,x::l=>(nX s l).cons_cons x
section
variable {P:LY} {ops:Array Me} {D:List Nat} {l:List (Nat × LW)} {w0:nN} {h:List (Nat × Obj)} {F0:LX→Prop}
variable {vals:(Nat→bT)→Nat→LW} {effs:(Nat→bT)→Nat→qJ} {fact:(Nat→bT)→Nat→LX→Prop}
def rcE (P : LY) (ops : Array Me) (D : List Nat) (l : List (Nat × LW)) (h : List (Nat × Obj)) (V : Nat -> LW) (E : Nat -> qJ) (E' : qJ) (i : Nat) (ns z : List Nat) : Option (LW × List (Nat × Obj) × List (Nat × Nat) × qJ) :=
 if (ops[i]?).isSome&&fM ops D h E i ns&&F5 ns E' then
  if nD V (iR ops i) then (uN P (execOp (eX ops D l V i) (iR ops i)) [] (gG ops D h E i ns) z).bind fun r=>(FT r.1).map fun v=>(v,r.2.1,r.2.2,E')
  else some (LV,gG ops D h E i ns,[],{})
 else none
def rcL (r:Option (LW × List (Nat × Obj) × List (Nat × Nat) × qJ)):Option (LW × List (Nat × Obj) × List Nat × List Nat × qJ):=r.map fun r=>(r.1,r.2.1,r.2.2.1.map (·.1),r.2.2.1.map (·.2),r.2.2.2)
def rcR (r:Option (LW × List (Nat × Obj) × List (Nat × Nat) × qJ)) (v:LW) (K:List (Nat × Obj)) (E':qJ):Option (LW × List (Nat × Obj) × List Nat × List Nat × qJ):=some (v,K,((r.map (·.2.2.1)).getD []).map (·.1),((r.map (·.2.2.1)).getD []).map (·.1),E')
theorem eqs_of:∀ {es:List (Nat × Nat)},es.map (·.2)=es.map (·.1)->Eqs es
 | [],_=>trivial
 | e :: es, h => by
   simp only [Lc,KD.injEq] at h
   exact ⟨h.1.symm,eqs_of h.2⟩
theorem run_obl {i : Nat} (ns : List Nat)
 (hc:∀ ρ z,rcL (rcE P ops D l h (vals ρ) (effs ρ) (effs (dU ρ i { n:=z}) i) i ns z)=rcR (rcE P ops D l h (vals ρ) (effs ρ) (effs (dU ρ i { n:=z}) i) i ns z) (vals (dU ρ i { n:=z}) i) (CY ns (gG ops D h (effs ρ) i ns) (effs (dU ρ i { n:=z}) i)) (effs (dU ρ i { n:=z}) i))
 (hf:∀ ρ w,fact ρ i w):mW P ops D l w0 h F0 vals effs fact i:=by
 intro o ho ρ T w hG
 have key : ∀ z, ((ops[i]?).isSome = true /\ fM ops D h (effs ρ) i ns = true /\ F5 ns (effs (dU ρ i { n := z }) i) = true) /\
  ((nD (vals ρ) (iR ops i)=true/\∃ x es,FT x=some (vals (dU ρ i { n:=z}) i)/\Eqs es/\uN P (execOp (eX ops D l (vals ρ) i) (iR ops i)) [] (gG ops D h (effs ρ) i ns) z=some (x,CY ns (gG ops D h (effs ρ) i ns) (effs (dU ρ i { n:=z}) i),es)) \/
   (nD (vals ρ) (iR ops i)=false/\vals (dU ρ i { n:=z}) i=LV/\effs (dU ρ i { n:=z}) i={})):=by
  intro z
  have h1:=hc ρ z
  unfold rcL rcR at h1
  rw [IM] at h1
  obtain ⟨⟨v,K,es,E'⟩,h2,h3⟩:=h1
  rw [h2] at h3
  simp only [Ls.injEq] at h3
  obtain ⟨hv,hK,_,hes,hE⟩:=h3
  unfold rcE at h2
  split at h2
  ·rename_i hb
   simp only [II] at hb
   refine ⟨⟨hb.1.1,hb.1.2,hb.2⟩,?_⟩
   split at h2
   ·rename_i hw
    left
    refine ⟨hw,?_⟩
    rw [Option.bind_eq_some_iff] at h2
    obtain ⟨⟨x,K1,es1⟩,g1,g2⟩:=h2
    rw [IM] at g2
    obtain ⟨v1,g2,g3⟩:=g2
    simp at g3
    obtain ⟨rfl,rfl,rfl,_⟩:=g3
    rw [hv] at g2
    rw [hK] at g1
    exact ⟨x,es1,g2,eqs_of hes,g1⟩
   ·rename_i hw
    right
    simp at h2
    refine ⟨by grind,?_,?_⟩
    ·rw [<- hv];exact h2.1.symm
    ·rw [<- hE];exact h2.2.2.2.symm
  ·exact absurd h2 (by simp)
 have hoe:=lN (key []).1.1
 obtain rfl:o=iR ops i:=by grind
 rcases (key []).2 with hk | hk
 ·have hw := hk.1
  have kz:∀ z,∃ x es,FT x=some (vals (dU ρ i { n:=z}) i)/\Eqs es/\uN P (execOp (eX ops D l (vals ρ) i) (iR ops i)) [] (gG ops D h (effs ρ) i ns) z=some (x,CY ns (gG ops D h (effs ρ) i ns) (effs (dU ρ i { n:=z}) i),es):=by grind
  exact obl_run_at ho ns [] ρ (fun z=>(kz z).choose_spec.choose) (fun z=>(kz z).choose) hw (key []).1.2.1 (fun z=>(kz z).choose_spec.choose_spec.2.2) (fun z=>(kz z).choose_spec.choose_spec.1) (fun z=>(key z).1.2.2) (fun z=>(kz z).choose_spec.choose_spec.2.1) (fun z w=>hf _ w) T w hG
 ·obtain ⟨hw, hv, he⟩ := hk
  rw [if_neg (by grind)]
  refine ⟨{ n:=[]},hv.symm,?_,?_,?_,?_,dL (hf _)⟩
  ·exact pG.refl _ _
  ·rw [he];intro n q hm;simp at hm
  ·rw [he];intro k b q hk;simp at hk
  ·rw [he];simp
def chkL (P:LY) (ops:Array Me) (D:List Nat) (l:List (Nat × LW)) (h:List (Nat × Obj)) (vals:(Nat->bT)->Nat->LW) (effs:(Nat->bT)->Nat->qJ) (ρ:Nat->bT) (z:List Nat):Nat->List (List Nat)->List (Option (LW × List (Nat × Obj) × List Nat × List Nat × qJ))
 | _,[]=>[]
 | i,ns::r=>rcL (rcE P ops D l h (vals ρ) (effs ρ) (effs (dU ρ i { n:=z}) i) i ns z)::chkL P ops D l h vals effs ρ z (i+1) r
def chkR (P:LY) (ops:Array Me) (D:List Nat) (l:List (Nat × LW)) (h:List (Nat × Obj)) (vals:(Nat->bT)->Nat->LW) (effs:(Nat->bT)->Nat->qJ) (ρ:Nat->bT) (z:List Nat):Nat->List (List Nat)->List (Option (LW × List (Nat × Obj) × List Nat × List Nat × qJ))
 | _,[]=>[]
 | i,ns::r=>rcR (rcE P ops D l h (vals ρ) (effs ρ) (effs (dU ρ i { n:=z}) i) i ns z) (vals (dU ρ i { n:=z}) i) (CY ns (gG ops D h (effs ρ) i ns) (effs (dU ρ i { n:=z}) i)) (effs (dU ρ i { n:=z}) i)::chkR P ops D l h vals effs ρ z (i+1) r
def factL (fact:(Nat->bT)->Nat->LX->Prop) (ρ:Nat->bT):Nat->Nat->List (LX->Prop)
 | _,0=>[]
 | i,k+1=>fact ρ i::factL fact ρ (i+1) k
def trueL:Nat->List (LX->Prop)
 | 0=>[]
 | k+1=>(fun _=>True)::trueL k
theorem cR {i:Nat} (nss:List (List Nat)) (t:fK m (mW P ops D l w0 h F0 vals effs fact) (i+nss.length))
 (hc:∀ ρ z,chkL P ops D l h vals effs ρ z i nss=chkR P ops D l h vals effs ρ z i nss:=by intros;kernel_rfl)
 (hf:∀ ρ,factL fact ρ i nss.length=trueL nss.length:=by intros;kernel_rfl):fK m (mW P ops D l w0 h F0 vals effs fact) i:=by
 induction nss generalizing i with
 | nil=>exact t
 | cons ns r ih =>
   have hc1:=fun ρ z=>KD.inj (hc ρ z)
   have hf1:=fun ρ=>KD.inj (hf ρ)
   refine cX (run_obl ns (fun ρ z=>(hc1 ρ z).1) (fun ρ w=>by grind)) (ih ?_ (fun ρ z=>(hc1 ρ z).2) (fun ρ=>(hf1 ρ).2))
   rw [show i+1+r.length=i+(r.length+1) by omega]
   exact t
theorem cY {i:Nat} (hO:mW P ops D l w0 h F0 vals effs (fun _ _ _=>True) i) (t:fK m (mW P ops D l w0 h F0 vals effs fact) (i+1)) (hF:∀ ρ,fact ρ i=fun _=>True:=by intros;kernel_rfl):fK m (mW P ops D l w0 h F0 vals effs fact) i :=
 cX (hO.brings (fun ρ w=>by grind)) t
theorem cC {i:Nat} {f:Md} {args:(Nat->bT)->Array LW} {v:(Nat->bT)->LW} (hf:∀ ρ w,Calls P f (args ρ) w (fun e w'=>e=.returned (v ρ)/\Below w.heap.size w w')) (t:fK m (mW P ops D l w0 h F0 vals effs fact) (i+1))
 (hc:∀ ρ z,rQ P ops D l (vals ρ) (vals (dU ρ i {}) i) (effs (dU ρ i {}) i) i z=some (.enter f (args ρ),[],[],v ρ,{}):=by intros;kernel_rfl) (hF:∀ ρ,fact ρ i=fun _=>True:=by intros;kernel_rfl):fK m (mW P ops D l w0 h F0 vals effs fact) i:=cY (o_call i f args v hc hf) t hF
theorem cA {i:Nat} {v:(Nat->bT)->LW} (v':(Nat->bT)->LW) (he:∀ ρ,v ρ=v' ρ) (t:fK m (mW P ops D l w0 h F0 vals effs fact) (i+1))
 (hc:∀ ρ z,rQ P ops D l (vals ρ) (vals (dU ρ i {}) i) (effs (dU ρ i {}) i) i z=some (.value (v ρ),[],[],v' ρ,{}):=by intros;kernel_rfl) (hF:∀ ρ,fact ρ i=fun _=>True:=by intros;kernel_rfl):fK m (mW P ops D l w0 h F0 vals effs fact) i:=cY (o_as i v v' hc he) t hF
theorem cB {i:Nat} {a b v:(Nat->bT)->LW} (op:BinOp) (ty:LZ)
 (hf:∀ ρ w,(binOp op ty (a ρ) (b ρ)).run P w=.ok (v ρ) w) (t:fK m (mW P ops D l w0 h F0 vals effs fact) (i+1))
 (hc:∀ ρ,binChk ops D l (vals ρ) (vals (dU ρ i {}) i) (effs (dU ρ i {}) i) i=some (op,ty,a ρ,b ρ,v ρ,{}):=by intros;kernel_rfl)
 (hg:∀ ρ x y w,(eqGuard op ty x y (a ρ) (b ρ)).run P w=.ok () w:=by intros;kernel_rfl) (hF:∀ ρ,fact ρ i=fun _=>True:=by intros;kernel_rfl):fK m (mW P ops D l w0 h F0 vals effs fact) i:=cY (o_bin i op ty a b v hc hg hf) t hF
end
section
variable {P:LY} {ops:Array Me} {D:List Nat} {l:List (Nat × LW)} {w0:nN} {h:List (Nat × Obj)} {F0:LX→Prop}
variable {vals:(Nat→bT)→Nat→LW} {effs:(Nat→bT)→Nat→qJ} {fact:(Nat→bT)→Nat→LX→Prop}
theorem iM.persK {i:Nat} (hG:iM ops D w0 h F0 effs fact i ρ T w) (ns:List Nat) {K:List (Nat × Obj)} (hn:fM ops D h (effs ρ) i ns=true) (hk:YtegagmoldjiaaaaGreatDoor.gG ops D h (effs ρ) i ns=K) {G:LX->Prop} (hFG:∀ w,F0 w->G w):bZ (fun b=>b∈K.map (·.1)) G w:=by
 refine (hG.iE.mono hFG).sub (fun b hb=>?_)
 rw [<- hk] at hb
 obtain ⟨y,hy,rfl⟩:=IX.1 hb
 obtain ⟨n,hm,rfl⟩:=IX.1 hy
 unfold fM at hn
 rw [II,IP] at hn
 have hn1:=hn.1 n hm
 rw [II] at hn1
 obtain ⟨q,hq⟩:=IK.1 hn1.1
 rw [hq]
 exact (hG.block n q hq hn1.2).2.1
theorem St.dZ {F:LX->Prop} (hS:St w0 h F w) (ks:List Nat) {K:List (Nat × Obj)} (hK:uU ks h=K:=by kernel_rfl):bI K w:=by
 intro x hx
 rw [<- hK] at hx
 exact (hS.at_ x ((nX ks h).subset hx)).2
theorem o_callGWT (i:Nat) (ns:List Nat) (f:Md) (args:(Nat->bT)->Array LW) (K:(Nat->bT)->List (Nat × Obj)) (K':(Nat->bT)->bT->List (Nat × Obj))
 (hc:∀ ρ z,iG P ops D l (vals ρ) i z=some (.enter f (args ρ),[],[]))
 (he:∀ ρ r,effs (dU ρ i r) i={ puts:=ns.zip (K' ρ r)})
 (hn:∀ ρ,fM ops D h (effs ρ) i ns=true) (hk:∀ ρ,gG ops D h (effs ρ) i ns=K ρ) (hl:∀ ρ r,(K' ρ r).map (·.1)=(K ρ).map (·.1))
 (hf:∀ ρ T w,iM ops D w0 h F0 effs fact i ρ T w->bI (K ρ) w->Calls P f (args ρ) w (fun e w'=>pG (fun b=>b∈(K ρ).map (·.1)) w w'/\∃ r,e=.returned (vals (dU ρ i r) i)/\bI (K' ρ r) w'/\bZ T (fact (dU ρ i r) i) w')):mW P ops D l w0 h F0 vals effs fact i:=by
 have key:∀ ρ z,((ops[i]?).isSome=true/\nD (vals ρ) (iR ops i)=true)/\uN P (execOp (eX ops D l (vals ρ) i) (iR ops i)) [] [] z=some (.enter f (args ρ),[],[]):=by
  intro ρ z
  have h1:=hc ρ z
  unfold iG at h1
  split at h1
  ·rename_i hb
   simp only [II] at hb
   exact ⟨hb,h1⟩
  ·exact absurd h1 (by simp)
 intro o ho ρ T w hG
 have hoe:=lN (key ρ []).1.1
 obtain rfl:o=iR ops i:=by grind
 rw [if_pos (key ρ []).1.2]
 obtain ⟨w1,h1,_,_,h4,_,_⟩:=uK (P:=P) (execOp (eX ops D l (vals ρ) i) (iR ops i)) [] [] w _ _ _ (by intro y hy;simp at hy) (by simp) ((key ρ _).2) trivial
 have hb:Below w.heap.size w w1:=⟨h4.os,h4.tape,h4.output,h4.size,fun k hk=>h4.block k hk (by simp)⟩
 have hheap:= fun b hb'=>hb.block b hb'
 have hG1:iM ops D w0 h F0 effs fact i ρ T w1:=by
  have tr:∀ {F:LX->Prop},bZ T F w->bZ T F w1:=by
   rintro F ⟨S,s1,s2⟩
   refine ⟨S,fun b hb'=>⟨IZ (s1 b hb').1 hb.size,(s1 b hb').2⟩,fun w' hw=>s2 w' (fun b hb'=>?_)⟩
   rw [hw b hb',hheap b (s1 b hb').1]
  refine ⟨fun b hb'=>IZ (hG.lt b hb') hb.size,hG.aS.trans (pG.vU hb),fun n x hn hk=>?_,hG.ne,tr hG.iE,fun j hj=>tr (hG.facts j hj)⟩
  have:=hG.block n x hn hk
  refine ⟨?_,this.2⟩
  rw [hheap _ (hG.lt _ this.2.1)]
  exact this.1
 have hno:=hn ρ
 unfold fM at hno
 rw [II,IP,decide_eq_true_eq] at hno
 obtain ⟨hno,hnd⟩:=hno
 have hbn:∀ n∈ns,∃ x,AY h (effs ρ) n=some x/\okN ops D h (effs ρ) i n=true:=by
  intro n hm
  have:=hno n hm
  rw [II] at this
  obtain ⟨x,hb⟩:=IK.1 this.1
  exact ⟨x,hb,this.2⟩
 have hKk:∀ (j n:Nat),ns[j]? = some n->∃ x,AY h (effs ρ) n=some x/\okN ops D h (effs ρ) i n=true/\(K ρ)[j]? = some (yZ (effs ρ) ops.size (dep D i) n x):=by
  intro j n hj
  obtain ⟨x,hx,hok⟩:=hbn n (IV hj)
  refine ⟨x,hx,hok,?_⟩
  rw [<- hk ρ]
  unfold gG
  rw [I9,hj]
  simp [*]
 have hKn:bI (K ρ) w1:=by
  intro y hy
  rw [<- hk ρ] at hy
  obtain ⟨n,hm,rfl⟩:=IX.1 hy
  obtain ⟨x,hx,hok⟩:=hbn n hm
  rw [hx]
  exact (hG1.block n x hx hok).1
 unfold opv
 rw [h1]
 refine (hf ρ T w1 hG1 hKn).mono (fun e w2 hew=>?_)
 obtain ⟨hU,r,rfl,hK',hp⟩:=hew
 have hlen:(K' ρ r).length=ns.length:=by
  have q1:=congrArg JP (hl ρ r)
  have q2:=congrArg JP (hk ρ)
  unfold gG at q2
  simp at q1 q2
  omega
 have hzip:∀ (j n:Nat) (y:Nat × Obj),ns[j]? = some n->(K' ρ r)[j]? = some y->(ns.zip (K' ρ r)).lookup n=some y:=by
  intro j n y hj hy
  have hm:(n,y)∈ns.zip (K' ρ r):=IJ.2 ⟨j,by grind⟩
  cases hq:(ns.zip (K' ρ r)).lookup n with
  | none=>exact absurd hm (Am hq y)
  | some y2 =>
    obtain ⟨j2,hj2⟩:=IJ.1 (mZ hq)
    rw [Jt] at hj2
    have e:j2=j:=by
     obtain ⟨l1,g1⟩:=IQ.1 hj
     obtain ⟨l2,g2⟩:=IQ.1 hj2.1
     have hpw:=Jc.1 hnd
     rcases JF j2 j with hlt | hlt | hlt
     ·exact absurd (g2.trans g1.symm) (hpw _ _ l2 l1 hlt)
     ·exact hlt
     ·exact absurd (g1.trans g2.symm) (hpw _ _ l1 l2 hlt)
    rw [e,hy] at hj2
    exact hj2.2.symm
 refine ⟨r,rfl,?_,?_,?_,?_,?_⟩
 ·refine ⟨hU.os.trans hb.os, hU.tape.trans hb.tape, hU.output.trans hb.output, JA hb.size hU.size, fun k hk' hX => (hU.block k (IZ hk' hb.size) ?_).trans (hheap k hk')⟩
  intro hm
  obtain ⟨y,hy,rfl⟩:=IX.1 hm
  obtain ⟨j,hj⟩:=IJ.1 hy
  have hjl:j<ns.length:=by
   have q2:=congrArg JP (hk ρ)
   unfold gG at q2
   simp at q2
   rw [q2];exact (IQ.1 hj).1
  obtain ⟨x,hx,_,hKj⟩:=hKk j ns[j] (IR hjl)
  obtain rfl:y=yZ (effs ρ) ops.size (dep D i) ns[j] x:=Jw.inj (hj.symm.trans hKj)
  refine hX ⟨ns[j],(K' ρ r)[j]'om,x,?_,hx,rfl⟩
  rw [he]
  exact IJ.2 ⟨j,by grind⟩
 ·rw [he]
  intro n y hm
  obtain ⟨j,hj⟩:=IJ.1 hm
  rw [Jt] at hj
  obtain ⟨x,hx,hok,hKj⟩:=hKk j n hj.1
  refine ⟨hok,x,hx,?_,?_⟩
  ·rw [hzip j n y hj.1 hj.2]
   exact hK' y (IV hj.2)
  ·left
   rw [hzip j n y hj.1 hj.2]
   have q:=congrArg (fun l:List Nat=>l[j]?) (hl ρ r)
   simp only [I9,hj.2,hKj,Ju,Jw.injEq] at q
   exact q
 ·rw [he];intro k b q hk;simp at hk
 ·rw [he];simp
 ·refine hp.sub (fun b hbT => ?_)
  rw [he] at hbT
  rcases hbT with hbT | hbT | hbT
  ·exact hbT
  ·simp at hbT
  ·obtain ⟨⟨n, y⟩, hm, rfl⟩ := IX.1 hbT
   obtain ⟨j,hj⟩:=IJ.1 hm
   rw [Jt] at hj
   obtain ⟨x,hx,hok,hKj⟩:=hKk j n hj.1
   have q:=congrArg (fun l:List Nat=>l[j]?) (hl ρ r)
   simp only [I9,hj.2,hKj,Ju,Jw.injEq] at q
   simp only [q]
   exact (hG1.block n x hx hok).2.1
theorem Ii (i:Nat) (ns:List Nat) (f:Md) (args:(Nat->bT)->Array LW) (K:(Nat->bT)->List (Nat × Obj)) (K':(Nat->bT)->bT->List (Nat × Obj))
 (hc:∀ ρ z,iG P ops D l (vals ρ) i z=some (.enter f (args ρ),[],[]))
 (he:∀ ρ r,effs (dU ρ i r) i={ puts:=ns.zip (K' ρ r)})
 (hn:∀ ρ,fM ops D h (effs ρ) i ns=true) (hk:∀ ρ,gG ops D h (effs ρ) i ns=K ρ) (hl:∀ ρ r,(K' ρ r).map (·.1)=(K ρ).map (·.1))
 (hf:∀ ρ T w,iM ops D w0 h F0 effs fact i ρ T w->bI (K ρ) w->Calls P f (args ρ) w (fun e w'=>pG (fun b=>b∈(K ρ).map (·.1)) w w'/\∃ r,e=.returned (vals (dU ρ i r) i)/\bI (K' ρ r) w'/\bZ (fun b=>b<w.heap.size) (fact (dU ρ i r) i) w')):mW P ops D l w0 h F0 vals effs fact i :=
 o_callGWT i ns f args K K' hc he hn hk hl (fun ρ T w hG hK=>(hf ρ T w hG hK).mono (fun _ _ ⟨h1,r,h2,h3,h4⟩=>⟨h1,r,h2,h3,h4.sub hG.lt⟩))
theorem o_callW (i:Nat) (ns:List Nat) (f:Md) (args:(Nat->bT)->Array LW) (v:(Nat->bT)->LW) (K K':(Nat->bT)->List (Nat × Obj))
 (hf:∀ ρ T w,iM ops D w0 h F0 effs fact i ρ T w->bI (K ρ) w->Calls P f (args ρ) w (fun e w'=>e=.returned (v ρ)/\pG (fun b=>b∈(K ρ).map (·.1)) w w'/\bI (K' ρ) w'))
 (hc:∀ ρ z,iG P ops D l (vals ρ) i z=some (.enter f (args ρ),[],[]):=by intros;kernel_rfl)
 (hv:∀ ρ,vals (dU ρ i {}) i=v ρ:=by intros;kernel_rfl) (he:∀ ρ r,effs (dU ρ i r) i={ puts:=ns.zip (K' ρ)}:=by intros;kernel_rfl)
 (hn:∀ ρ,fM ops D h (effs ρ) i ns=true:=by intros;kernel_rfl) (hk:∀ ρ,gG ops D h (effs ρ) i ns=K ρ:=by intros;kernel_rfl) (hl:∀ ρ,(K' ρ).map (·.1)=(K ρ).map (·.1):=by intros;kernel_rfl)
 (hF:∀ ρ,fact ρ i=fun _=>True:=by intros;kernel_rfl):mW P ops D l w0 h F0 vals effs fact i:=by
 refine Ii i ns f args K (fun ρ _=>K' ρ) hc he hn hk (fun ρ _=>hl ρ) (fun ρ T w hG hK=>(hf ρ T w hG hK).mono (fun e w' hew=>⟨hew.2.1,{},?_,hew.2.2,?_⟩))
 ·rw [hv ρ];exact hew.1
 ·rw [hF];exact iD
end
section
variable {P:LY} {Q:L9→Act→LX→Prop} {n:Nat} {l:List (Nat × LW)} {w0:nN} {h:List (Nat × Obj)} {F:LX→Prop}
theorem seqOk_dsq (m:Nat):DSeq m (dsq m)=true:=by
 unfold DSeq dsq
 rw [IP]
 intro i hi
 have hi':=IU.1 hi
 simp [hi']
def sqOk (ops:Array Me) (m n:Nat) (l:List (Nat × LW)) (keep:List Nat):Bool:=ops.size==m&&DZ ops n&&Fq ops (dsq m) l&&keepOk ops l keep
def drOk (ops:Array Me) (D:List Nat) (m n:Nat) (l:List (Nat × LW)) (keep:List Nat):Bool:=ops.size==m&&drawOk ops D n l keep
theorem reg_sq {id:Nat} {ops:Array Me} {keep hb:List Nat} {vals:(Nat->bT)->List LW} {effs:(Nat->bT)->List (Nat × qJ)} (hloc:∀ ρ,AZ vals effs (fun _=>[]) ρ m=A8 (dsq m) vals effs (fun _=>[]) ρ m) (hchk:sqOk ops m n l keep=true)
 (c:fK m (mW P ops (dsq m) l w0 h F (mv vals) (me effs) (fun _ _ _=>True)) 0) :
 Reg P id ops false n l w0 h F (fun ρ=>A7 ops l (mv vals ρ) keep) (fun ρ=>uU hb (zO m h (me effs ρ))):=by
 unfold sqOk at hchk
 simp at hchk
 obtain ⟨⟨⟨hsz,c3⟩,c4⟩,c5⟩:=hchk
 subst hsz
 intro Q A w hfr hS hend
 refine BK (seqOk_dsq _) (by rw [hfr.size];exact c3) c4 (vals:=mv vals) (effs:=me effs) (fact:=fun _ _ _=>True) ?_ ?_ keep c5 (by rw [hfr.size];exact hfr) hS ?_
 ·intro j hj ρ ρ' hh
  exact ⟨(Fa hloc j hj ρ ρ' hh).1,(Fa hloc j hj ρ ρ' hh).2.1,rfl⟩
 ·intro i hi
  exact c i (KT _) hi
 ·intro ρ A' w' hA hS'
  rw [hfr.size] at hA
  exact hend ρ A' w' hA ((hS'.dP (fun _ h=>h.1)).sub (nX _ _))
theorem reg_dr {id:Nat} {ops:Array Me} {D keep hb:List Nat} {vals:(Nat->bT)->List LW} {effs:(Nat->bT)->List (Nat × qJ)} (hloc:∀ ρ,AZ vals effs (fun _=>[]) ρ m=A8 D vals effs (fun _=>[]) ρ m) (hm:P.follows .mixedOrders=true) (hchk:drOk ops D m n l keep=true)
 (c:fK m (mW P ops D l w0 h F (mv vals) (me effs) (fun _ _ _=>True)) 0) :
 Reg P id ops true n l w0 h F (fun ρ=>A7 ops l (mv vals ρ) keep) (fun ρ=>uU hb (zO m h (me effs ρ))):=by
 unfold drOk drawOk at hchk
 simp at hchk
 obtain ⟨hsz,⟨⟨⟨c1,c2⟩,c3⟩,c4⟩,c5⟩:=hchk
 subst hsz
 intro Q A w hfr hS hend
 refine DC hm c1 c2 (by rw [hfr.size];exact c3) c4 (vals:=mv vals) (effs:=me effs) (fact:=fun _ _ _=>True) ?_ ?_ keep c5 (by rw [hfr.size];exact hfr) hS ?_
 ·intro j hj ρ ρ' hh
  exact ⟨(Fa hloc j hj ρ ρ' hh).1,(Fa hloc j hj ρ ρ' hh).2.1,rfl⟩
 ·intro i hi
  exact c i (KT _) hi
 ·intro ρ A' w' hA hS'
  rw [hfr.size] at hA
  exact hend ρ A' w' hA ((hS'.dP (fun _ h=>h.1)).sub (nX _ _))
theorem reg_sqF {id:Nat} {ops:Array Me} {keep hb:List Nat} {vals:(Nat->bT)->List LW} {effs:(Nat->bT)->List (Nat × qJ)} {fact:(Nat->bT)->List (Nat × (LX->Prop))} {F':(Nat->bT)->LX->Prop} (hloc:∀ ρ,AZ vals effs fact ρ m=A8 (dsq m) vals effs fact ρ m) (hchk:sqOk ops m n l keep=true)
 (hF:∀ ρ w,F w->(∀ i,mf fact ρ i w)->F' ρ w)
 (c:fK m (mW P ops (dsq m) l w0 h F (mv vals) (me effs) (mf fact)) 0) (hfm:∀ ρ,(fact ρ).all (fun x=>decide (x.1<m))=true) :
 RegF P id ops false n l w0 h F (fun ρ=>A7 ops l (mv vals ρ) keep) (fun ρ=>uU hb (zO m h (me effs ρ))) F':=by
 have hnone:∀ ρ i,m<=i->mf fact ρ i=fun _=>True:=by
  intro ρ i hi
  unfold mf
  have:(fact ρ).lookup i=none:=by grind
  rw [this];rfl
 unfold sqOk at hchk
 simp at hchk
 obtain ⟨⟨⟨hsz,c3⟩,c4⟩,c5⟩:=hchk
 subst hsz
 intro Q A w hfr hS hend
 refine BK (seqOk_dsq _) (by rw [hfr.size];exact c3) c4 (vals:=mv vals) (effs:=me effs) (fact:=mf fact) ?_ ?_ keep c5 (by rw [hfr.size];exact hfr) hS ?_
 ·intro j hj
  exact Fa hloc j hj
 ·intro i hi
  exact c i (KT _) hi
 ·intro ρ A' w' hA hS'
  rw [hfr.size] at hA
  refine hend ρ A' w' hA ((hS'.dP (fun w h=>hF ρ w h.1 (fun i=>?_))).sub (nX _ _))
  by_cases hi:i<ops.size
  ·exact h.2 i hi
  ·rw [hnone ρ i om];trivial
theorem reg_drF {id:Nat} {ops:Array Me} {D keep hb:List Nat} {vals:(Nat->bT)->List LW} {effs:(Nat->bT)->List (Nat × qJ)} {fact:(Nat->bT)->List (Nat × (LX->Prop))} {F':(Nat->bT)->LX->Prop} (hloc:∀ ρ,AZ vals effs fact ρ m=A8 D vals effs fact ρ m) (hm:P.follows .mixedOrders=true) (hchk:drOk ops D m n l keep=true)
 (hF:∀ ρ w,F w->(∀ i,mf fact ρ i w)->F' ρ w)
 (c:fK m (mW P ops D l w0 h F (mv vals) (me effs) (mf fact)) 0) (hfm:∀ ρ,(fact ρ).all (fun x=>decide (x.1<m))=true) :
 RegF P id ops true n l w0 h F (fun ρ=>A7 ops l (mv vals ρ) keep) (fun ρ=>uU hb (zO m h (me effs ρ))) F':=by
 have hnone:∀ ρ i,m<=i->mf fact ρ i=fun _=>True:=by
  intro ρ i hi
  unfold mf
  have:(fact ρ).lookup i=none:=by grind
  rw [this];rfl
 unfold drOk drawOk at hchk
 simp at hchk
 obtain ⟨hsz,⟨⟨⟨c1,c2⟩,c3⟩,c4⟩,c5⟩:=hchk
 subst hsz
 intro Q A w hfr hS hend
 refine DC hm c1 c2 (by rw [hfr.size];exact c3) c4 (vals:=mv vals) (effs:=me effs) (fact:=mf fact) ?_ ?_ keep c5 (by rw [hfr.size];exact hfr) hS ?_
 ·intro j hj
  exact Fa hloc j hj
 ·intro i hi
  exact c i (KT _) hi
 ·intro ρ A' w' hA hS'
  rw [hfr.size] at hA
  refine hend ρ A' w' hA ((hS'.dP (fun w h=>hF ρ w h.1 (fun i=>?_))).sub (nX _ _))
  by_cases hi:i<ops.size
  ·exact h.2 i hi
  ·rw [hnone ρ i om];trivial
theorem sS {id:Nat} {ops:Array Me} (fn:Func) (m:Nat) (keep hb:List Nat) (vals:(Nat->bT)->List LW) (effs:(Nat->bT)->List (Nat × qJ))
 (c:fK m (mW P (eP fn id) (dsq m) l w0 h F (mv vals) (me effs) (fun _ _ _=>True)) 0)
 (k:∀ ρ,Ok P y Q n (A7 (eP fn id) l (mv vals ρ) keep) w0 (uU hb (zO m h (me effs ρ))) F)
 (hloc:∀ ρ,AZ vals effs (fun _=>[]) ρ m=A8 (dsq m) vals effs (fun _=>[]) ρ m:=by intros;kernel_rfl) (e:ops=eP fn id:=by kernel_rfl) (hchk:sqOk (eP fn id) m n l keep=true:=by kernel_rfl):Ok P (.seq (.region id ops false) y) Q n l w0 h F:=ok_seq_r e (reg_sq hloc hchk c) k
theorem rS {id:Nat} {ops:Array Me} (fn:Func) (m:Nat) (keep hb:List Nat) (vals:(Nat->bT)->List LW) (effs:(Nat->bT)->List (Nat × qJ))
 (c:fK m (mW P (eP fn id) (dsq m) l w0 h F (mv vals) (me effs) (fun _ _ _=>True)) 0)
 (k:∀ ρ,mY (Q .normal) n (A7 (eP fn id) l (mv vals ρ) keep) w0 (uU hb (zO m h (me effs ρ))) F)
 (hloc:∀ ρ,AZ vals effs (fun _=>[]) ρ m=A8 (dsq m) vals effs (fun _=>[]) ρ m:=by intros;kernel_rfl) (e:ops=eP fn id:=by kernel_rfl) (hchk:sqOk (eP fn id) m n l keep=true:=by kernel_rfl):Ok P (.region id ops false) Q n l w0 h F:=ok_r e (reg_sq hloc hchk c) k
theorem sD {id:Nat} {ops:Array Me} (fn:Func) (D:List Nat) (m:Nat) (keep hb:List Nat) (vals:(Nat->bT)->List LW) (effs:(Nat->bT)->List (Nat × qJ))
 (c:fK m (mW P (eP fn id) D l w0 h F (mv vals) (me effs) (fun _ _ _=>True)) 0)
 (k:∀ ρ,Ok P y Q n (A7 (eP fn id) l (mv vals ρ) keep) w0 (uU hb (zO m h (me effs ρ))) F)
 (hloc:∀ ρ,AZ vals effs (fun _=>[]) ρ m=A8 D vals effs (fun _=>[]) ρ m:=by intros;kernel_rfl) (e:ops=eP fn id:=by kernel_rfl) (hchk:drOk (eP fn id) D m n l keep=true:=by kernel_rfl) (hm:P.follows .mixedOrders=true:=by kernel_rfl):Ok P (.seq (.region id ops true) y) Q n l w0 h F:=ok_seq_r e (reg_dr hloc hm hchk c) k
theorem rD {id:Nat} {ops:Array Me} (fn:Func) (D:List Nat) (m:Nat) (keep hb:List Nat) (vals:(Nat->bT)->List LW) (effs:(Nat->bT)->List (Nat × qJ))
 (c:fK m (mW P (eP fn id) D l w0 h F (mv vals) (me effs) (fun _ _ _=>True)) 0)
 (k:∀ ρ,mY (Q .normal) n (A7 (eP fn id) l (mv vals ρ) keep) w0 (uU hb (zO m h (me effs ρ))) F)
 (hloc:∀ ρ,AZ vals effs (fun _=>[]) ρ m=A8 D vals effs (fun _=>[]) ρ m:=by intros;kernel_rfl) (e:ops=eP fn id:=by kernel_rfl) (hchk:drOk (eP fn id) D m n l keep=true:=by kernel_rfl) (hm:P.follows .mixedOrders=true:=by kernel_rfl):Ok P (.region id ops true) Q n l w0 h F:=ok_r e (reg_dr hloc hm hchk c) k
theorem wW {id:Nat} {ops:Array Me} (fn:Func) (m:Nat) (keep hb:List Nat) (vals:(Nat->bT)->List LW) (effs:(Nat->bT)->List (Nat × qJ)) (fact:(Nat->bT)->List (Nat × (LX->Prop))) (F':(Nat->bT)->LX->Prop) (p:(Nat->bT)->Prop) (hF:∀ ρ w,F w->(∀ i,mf fact ρ i w)->F' ρ w/\p ρ)
 (c:fK m (mW P (eP fn id) (dsq m) l w0 h F (mv vals) (me effs) (mf fact)) 0)
 (k:∀ ρ,p ρ->Ok P y Q n (A7 (eP fn id) l (mv vals ρ) keep) w0 (uU hb (zO m h (me effs ρ))) (F' ρ))
 (hloc:∀ ρ,AZ vals effs fact ρ m=A8 (dsq m) vals effs fact ρ m:=by intros;kernel_rfl) (e:ops=eP fn id:=by kernel_rfl) (hchk:sqOk (eP fn id) m n l keep=true:=by kernel_rfl) (hfm:∀ ρ,(fact ρ).all (fun x=>decide (x.1<m))=true:=by intros;kernel_rfl):Ok P (.seq (.region id ops false) y) Q n l w0 h F :=
 ok_seq_rf e (reg_sqF hloc hchk (F':=fun ρ w=>F' ρ w/\p ρ) hF c hfm) (fun ρ=>ok_pure (p ρ) (fun _ h=>h.2) (fun hp=>ok_facts (F' ρ) (fun _ h=>h.1) (k ρ hp)))
theorem rSf {id:Nat} {ops:Array Me} (fn:Func) (m:Nat) (keep hb:List Nat) (vals:(Nat->bT)->List LW) (effs:(Nat->bT)->List (Nat × qJ)) (fact:(Nat->bT)->List (Nat × (LX->Prop))) (F':(Nat->bT)->LX->Prop) (p:(Nat->bT)->Prop) (hF:∀ ρ w,F w->(∀ i,mf fact ρ i w)->F' ρ w/\p ρ)
 (c:fK m (mW P (eP fn id) (dsq m) l w0 h F (mv vals) (me effs) (mf fact)) 0)
 (k:∀ ρ,p ρ->mY (Q .normal) n (A7 (eP fn id) l (mv vals ρ) keep) w0 (uU hb (zO m h (me effs ρ))) (F' ρ))
 (hloc:∀ ρ,AZ vals effs fact ρ m=A8 (dsq m) vals effs fact ρ m:=by intros;kernel_rfl) (e:ops=eP fn id:=by kernel_rfl) (hchk:sqOk (eP fn id) m n l keep=true:=by kernel_rfl) (hfm:∀ ρ,(fact ρ).all (fun x=>decide (x.1<m))=true:=by intros;kernel_rfl):Ok P (.region id ops false) Q n l w0 h F :=
 ok_rf e (reg_sqF hloc hchk (F':=fun ρ w=>F' ρ w/\p ρ) hF c hfm) (fun ρ=>mt_pure (p ρ) (fun _ h=>h.2) (fun hp=>mt_facts (F' ρ) (fun _ h=>h.1) (k ρ hp)))
theorem sDf {id:Nat} {ops:Array Me} (fn:Func) (D:List Nat) (m:Nat) (keep hb:List Nat) (vals:(Nat->bT)->List LW) (effs:(Nat->bT)->List (Nat × qJ)) (fact:(Nat->bT)->List (Nat × (LX->Prop))) (F':(Nat->bT)->LX->Prop) (p:(Nat->bT)->Prop) (hF:∀ ρ w,F w->(∀ i,mf fact ρ i w)->F' ρ w/\p ρ)
 (c:fK m (mW P (eP fn id) D l w0 h F (mv vals) (me effs) (mf fact)) 0)
 (k:∀ ρ,p ρ->Ok P y Q n (A7 (eP fn id) l (mv vals ρ) keep) w0 (uU hb (zO m h (me effs ρ))) (F' ρ))
 (hloc:∀ ρ,AZ vals effs fact ρ m=A8 D vals effs fact ρ m:=by intros;kernel_rfl) (e:ops=eP fn id:=by kernel_rfl) (hchk:drOk (eP fn id) D m n l keep=true:=by kernel_rfl) (hm:P.follows .mixedOrders=true:=by kernel_rfl) (hfm:∀ ρ,(fact ρ).all (fun x=>decide (x.1<m))=true:=by intros;kernel_rfl):Ok P (.seq (.region id ops true) y) Q n l w0 h F :=
 ok_seq_rf e (reg_drF hloc hm hchk (F':=fun ρ w=>F' ρ w/\p ρ) hF c hfm) (fun ρ=>ok_pure (p ρ) (fun _ h=>h.2) (fun hp=>ok_facts (F' ρ) (fun _ h=>h.1) (k ρ hp)))
theorem rDf {id:Nat} {ops:Array Me} (fn:Func) (D:List Nat) (m:Nat) (keep hb:List Nat) (vals:(Nat->bT)->List LW) (effs:(Nat->bT)->List (Nat × qJ)) (fact:(Nat->bT)->List (Nat × (LX->Prop))) (F':(Nat->bT)->LX->Prop) (p:(Nat->bT)->Prop) (hF:∀ ρ w,F w->(∀ i,mf fact ρ i w)->F' ρ w/\p ρ)
 (c:fK m (mW P (eP fn id) D l w0 h F (mv vals) (me effs) (mf fact)) 0)
 (k:∀ ρ,p ρ->mY (Q .normal) n (A7 (eP fn id) l (mv vals ρ) keep) w0 (uU hb (zO m h (me effs ρ))) (F' ρ))
 (hloc:∀ ρ,AZ vals effs fact ρ m=A8 D vals effs fact ρ m:=by intros;kernel_rfl) (e:ops=eP fn id:=by kernel_rfl) (hchk:drOk (eP fn id) D m n l keep=true:=by kernel_rfl) (hm:P.follows .mixedOrders=true:=by kernel_rfl) (hfm:∀ ρ,(fact ρ).all (fun x=>decide (x.1<m))=true:=by intros;kernel_rfl):Ok P (.region id ops true) Q n l w0 h F :=
 ok_rf e (reg_drF hloc hm hchk (F':=fun ρ w=>F' ρ w/\p ρ) hF c hfm) (fun ρ=>mt_pure (p ρ) (fun _ h=>h.2) (fun hp=>mt_facts (F' ρ) (fun _ h=>h.1) (k ρ hp)))
theorem uF {c:L6} (l':List (Nat × LW)) (h':List (Nat × Obj)) (hc:Ok P c Q n l' w0 h' F) (hl:l'.map (fun x=>l.lookup x.1)=l'.map (fun x=>some x.2):=by kernel_rfl) (hh:h=h':=by kernel_rfl):Ok P c Q n l w0 h F:=by
 subst hh;exact ok_drop l' h hl (JB.refl _) hc
theorem mD {R:Act->LX->Prop} (l':List (Nat × LW)) (h':List (Nat × Obj)) (hc:mY R n l' w0 h' F) (hl:l'.map (fun x=>l.lookup x.1)=l'.map (fun x=>some x.2):=by kernel_rfl) (hh:h=h':=by kernel_rfl):mY R n l w0 h F:=by
 subst hh;exact fun A w hf hs=>hc A w (hf.sub l' (Subl.get hl)) hs
theorem oY {t:Nat} {x:L6} (hx:Ok P x Q n l w0 h F) (hl:l.lookup t=some (.bool true):=by kernel_rfl):Ok P (.cond (.tmp t) x y) Q n l w0 h F:=ok_yes hl hx
theorem oN {t:Nat} {x:L6} (hy:Ok P y Q n l w0 h F) (hl:l.lookup t=some (.bool false):=by kernel_rfl):Ok P (.cond (.tmp t) x y) Q n l w0 h F:=ok_no hl hy
theorem oC {t:Nat} {x:L6} (b:Bool) (hx:b=true->Ok P x Q n l w0 h F) (hy:b=false->Ok P y Q n l w0 h F) (hl:l.lookup t=some (.bool b):=by kernel_rfl):Ok P (.cond (.tmp t) x y) Q n l w0 h F:=ok_cond hl hx hy
theorem oL {σ:Type} {c:L6} (L:σ->List (Nat × LW)) (H:σ->List (Nat × Obj)) (m:σ->Nat) (R:σ->Prop) (s0:σ) (hR:R s0) (ks:List Nat)
 (round:∀ s,R s->Ok P c (Exit.then (Next1 n w0 F L H m R (m s)) Q) n (L s) w0 (H s) F)
 (hl:(L s0).map (fun x=>l.lookup x.1)=(L s0).map (fun x=>some x.2):=by kernel_rfl) (hh:uU ks h=H s0:=by kernel_rfl):Ok P (.loop c) Q n l w0 h F :=
 ok_loop L H m R s0 hR hl (hh ▸ nX ks h) round
theorem mN {σ:Type} {L:σ->List (Nat × LW)} {H:σ->List (Nat × Obj)} {m:σ->Nat} {R:σ->Prop} {k:Nat} (s:σ) (hm:m s<k) (hR:R s) (ks:List Nat) (hl:(L s).map (fun x=>l.lookup x.1)=(L s).map (fun x=>some x.2):=by kernel_rfl) (hh:uU ks h=H s:=by kernel_rfl) :
 mY (Exit.then (Next1 n w0 F L H m R k) Q .normal) n l w0 h F:=mt_round s hm hR hl (hh ▸ nX ks h)
def resE (P:LY) (rs:Array ResultVar) (l:List (Nat × LW)) (ps:List Nat) (h:List (Nat × Obj)):Option (LW × List (Nat × Nat)):=if Hm rs l then grd P (resL rs l) ps h else none
theorem mR {fn:Func} {R:L8->LX->Prop} {v:LW} (hR:∀ w,St w0 h F w->R (.returned v) w) (ps:List Nat:=[])
 (hg:(resE P fn.results l ps h).map (fun r=>(r.1,r.2.map (·.2)))=some (v,((resE P fn.results l ps h).map (fun r=>r.2.map (·.1))).getD []):=by kernel_rfl):mY (bodyPost P fn R .ret) n l w0 h F:=by
 rw [IM] at hg
 obtain ⟨⟨v',es⟩,h1,h2⟩:=hg
 rw [h1] at h2
 simp only [Ls.injEq] at h2
 obtain ⟨rfl,h3⟩:=h2
 unfold resE at h1
 split at h1
 ·rename_i hr
  exact meets_ret ps es hr h1 (eqs_of h3) hR
 ·exact absurd h1 (by simp)
end
section
variable {P:LY} {ops:Array Me} {D:List Nat} {l:List (Nat × LW)} {w0:nN} {h:List (Nat × Obj)} {F0:LX→Prop}
variable {vals:(Nat→bT)→Nat→LW} {effs:(Nat→bT)→Nat→qJ} {fact:(Nat→bT)→Nat→LX→Prop}
theorem iM.kn {i:Nat} (hG:iM ops D w0 h F0 effs fact i ρ T w) (n:Nat) (hn:fM ops D h (effs ρ) i [n]=true:=by kernel_rfl) (hk:YtegagmoldjiaaaaGreatDoor.gG ops D h (effs ρ) i [n]=[(g,o)]:=by kernel_rfl):w.heap[g]? = some o:=hG.gG n hn hk
theorem iM.pK {i:Nat} (hG:iM ops D w0 h F0 effs fact i ρ T w) (ns:List Nat) {K:List (Nat × Obj)} {G:LX->Prop} (hFG:∀ w,F0 w->G w) (hn:fM ops D h (effs ρ) i ns=true:=by kernel_rfl) (hk:YtegagmoldjiaaaaGreatDoor.gG ops D h (effs ρ) i ns=K:=by kernel_rfl):bZ (fun b=>b∈K.map (·.1)) G w:=hG.persK ns hn hk hFG
variable {i:Nat}
theorem qC {f:Md} {args:(Nat->bT)->Array LW} {v:(Nat->bT)->LW}
 (hf:∀ ρ T w,iM ops D w0 h F0 effs fact i ρ T w->Calls P f (args ρ) w (fun e w'=>e=.returned (v ρ)/\Below w.heap.size w w'))
 (hc:∀ ρ z,iG P ops D l (vals ρ) i z=some (.enter f (args ρ),[],[]):=by intros;kernel_rfl)
 (hv:∀ ρ,vals (dU ρ i {}) i=v ρ:=by intros;kernel_rfl) (he:∀ ρ r,effs (dU ρ i r) i={}:=by intros;kernel_rfl) (ht:∀ ρ,fact ρ i=fun _=>True:=by intros;kernel_rfl):mW P ops D l w0 h F0 vals effs fact i :=
 o_callP i f args v hc hv he (fun ρ w=>by rw [ht];trivial) hf
theorem qB {f:Md} {args:(Nat->bT)->Array LW} {v:(Nat->bT)->OA->Nat->LW} {xs:(Nat->bT)->LU}
 (hf:∀ ρ T w,iM ops D w0 h F0 effs fact i ρ T w->Calls P f (args ρ) w (fun e w'=>∃ a c,e=.returned (v ρ a c)/\Below w.heap.size w w'/\Fs w w' a c (xs ρ)))
 (hc:∀ ρ z,iG P ops D l (vals ρ) i z=some (.enter f (args ρ),[],[]):=by intros;kernel_rfl)
 (hv:∀ ρ r,vals (dU ρ i r) i=v ρ r.a (r.n.headD 0):=by intros;kernel_rfl) (he:∀ ρ r,effs (dU ρ i r) i={}:=by intros;kernel_rfl) (ht:∀ ρ r,fact (dU ρ i r) i=(fun w=>Fs w0.w w r.a (r.n.headD 0) (xs ρ)):=by intros;kernel_rfl):mW P ops D l w0 h F0 vals effs fact i :=
 o_callB i f args v xs hc hv he ht hf
theorem qW (ns:List Nat) {f:Md} {args:(Nat->bT)->Array LW} {v:(Nat->bT)->LW} {K K':(Nat->bT)->List (Nat × Obj)}
 (hf:∀ ρ T w,iM ops D w0 h F0 effs fact i ρ T w->bI (K ρ) w->Calls P f (args ρ) w (fun e w'=>e=.returned (v ρ)/\pG (fun b=>b∈(K ρ).map (·.1)) w w'/\bI (K' ρ) w'))
 (hc:∀ ρ z,iG P ops D l (vals ρ) i z=some (.enter f (args ρ),[],[]):=by intros;kernel_rfl)
 (hv:∀ ρ,vals (dU ρ i {}) i=v ρ:=by intros;kernel_rfl) (he:∀ ρ r,effs (dU ρ i r) i={ puts:=ns.zip (K' ρ)}:=by intros;kernel_rfl)
 (hn:∀ ρ,fM ops D h (effs ρ) i ns=true:=by intros;kernel_rfl) (hk:∀ ρ,YtegagmoldjiaaaaGreatDoor.gG ops D h (effs ρ) i ns=K ρ:=by intros;kernel_rfl) (hl:∀ ρ,(K' ρ).map (·.1)=(K ρ).map (·.1):=by intros;kernel_rfl)
 (hF:∀ ρ,fact ρ i=fun _=>True:=by intros;kernel_rfl):mW P ops D l w0 h F0 vals effs fact i :=
 o_callW i ns f args v K K' hf hc hv he hn hk hl hF
theorem qF {s:(Nat->bT)->Sem Next} {v:(Nat->bT)->LW} (hr:∀ ρ T w,iM ops D w0 h F0 effs fact i ρ T w->(s ρ).run P w=.ok (.value (v ρ)) w)
 (hc:∀ ρ,Ah ops (vals ρ) (vals (dU ρ i {}) i) (effs (dU ρ i {}) i) i=some (v ρ,{}):=by intros;kernel_rfl)
 (hx:∀ ρ,execOp (eX ops D l (vals ρ) i) (iR ops i)=s ρ:=by intros;kernel_rfl) (ht:∀ ρ,fact ρ i=fun _=>True:=by intros;kernel_rfl):mW P ops D l w0 h F0 vals effs fact i :=
 o_semF i s v hc hx hr (fun ρ T w _=>by rw [ht];exact iD)
theorem qS {s:(Nat->bT)->Sem Next} {v:(Nat->bT)->LW} (hr:∀ ρ w,(s ρ).run P w=.ok (.value (v ρ)) w)
 (hc:∀ ρ,Ah ops (vals ρ) (vals (dU ρ i {}) i) (effs (dU ρ i {}) i) i=some (v ρ,{}):=by intros;kernel_rfl)
 (hx:∀ ρ,execOp (eX ops D l (vals ρ) i) (iR ops i)=s ρ:=by intros;kernel_rfl):mW P ops D l w0 h F0 vals effs (fun _ _ _=>True) i :=
 o_sem i s v hc hx hr
theorem qN {s:(Nat->bT)->Sem Next} (v:(Nat->bT)->List Nat->LW) (ob:(Nat->bT)->List Nat->Obj)
 (hr:∀ ρ T w,iM ops D w0 h F0 effs fact i ρ T w->∃ k w',(s ρ).run P w=.ok (.value (v ρ [w.heap.size,k])) w'/\Ew w w' (ob ρ [w.heap.size,k]))
 (hc:∀ ρ z,zD ops (vals ρ) (vals (dU ρ i { n:=z}) i) (effs (dU ρ i { n:=z}) i) i=some (v ρ z,{ news:=[(z.headD 0,ob ρ z)]}):=by intros;kernel_rfl)
 (hx:∀ ρ,execOp (eX ops D l (vals ρ) i) (iR ops i)=s ρ:=by intros;kernel_rfl) (ht:∀ ρ,fact ρ i=fun _=>True:=by intros;kernel_rfl):mW P ops D l w0 h F0 vals effs fact i :=
 Eg i s v ob hc hx (fun ρ w=>by grind) hr
theorem qM (n:Nat) {s:(Nat->bT)->Sem Next} {g:(Nat->bT)->Nat} {ob:(Nat->bT)->Obj} {ob':(Nat->bT)->bT->Obj} {v:(Nat->bT)->bT->LW} {p:(Nat->bT)->bT->Prop}
 (hr:∀ ρ T w,iM ops D w0 h F0 effs fact i ρ T w->w.heap[g ρ]? = some (ob ρ)->∃ r w',(s ρ).run P w=.ok (.value (v ρ r)) w'/\p ρ r/\H8 w w' (g ρ) (r.n.headD 0) (ob' ρ r))
 (hc:∀ ρ r,zD ops (vals ρ) (vals (dU ρ i r) i) (effs (dU ρ i r) i) i=some (v ρ r,{ puts:=[(n,r.n.headD 0,ob' ρ r)]}):=by intros;kernel_rfl)
 (hn:∀ ρ,fM ops D h (effs ρ) i [n]=true:=by intros;kernel_rfl) (hk:∀ ρ,YtegagmoldjiaaaaGreatDoor.gG ops D h (effs ρ) i [n]=[(g ρ,ob ρ)]:=by intros;kernel_rfl)
 (hx:∀ ρ,execOp (eX ops D l (vals ρ) i) (iR ops i)=s ρ:=by intros;kernel_rfl) (ht:∀ ρ r,fact (dU ρ i r) i=(fun _=>p ρ r):=by intros;kernel_rfl):mW P ops D l w0 h F0 vals effs fact i :=
 o_move1 i n s g ob ob' v p hc hn hk hx ht hr
end
abbrev vi (z:Int):LW:=.int .i64 z
abbrev vn (n:Nat):LW:=.int .i64 ((n:Nat):Int)
abbrev vs (g n c:Nat):LW:=.slice (some ⟨g,0,none⟩) n c
abbrev cL (C:Array LW) (T:LZ):Obj:=.cells C T (0,0)
abbrev nw (ρ:Nat->bT) (k:Nat) (o:Obj):qJ:={ news:=[(nb ρ k,o)]}
abbrev mQ (n g:Nat) (o:Obj):qJ:={ puts:=[(n,g,o)]}
theorem yT [Decidable p] (h:decide p=true):p:=by grind
theorem yF [Decidable p] (h:decide p=false): ¬p:=by grind
end
section
abbrev vu (n:Nat):LW:=.int .u32 ((n:Nat):Int)
abbrev vy (n:Nat):LW:=.int .u8 ((n:Nat):Int)
abbrev vx (n:Nat):LW:=.int .u64 ((n:Nat):Int)
abbrev jp (a i:Nat):LW:=.pointer (some ⟨a,i,none⟩)
abbrev jA (a:OA) (c k z:Nat):OA:=if c=k then a else a.map (·.add (k*z))
abbrev vz:LW:=.slice none 0 0
abbrev vT:LW:=.bool true
abbrev vF:LW:=.bool false
def jZ:Nat->bT:=fun _=>{}
section
variable {P:LY} {Q:L9→Act→LX→Prop} {n:Nat} {l:List (Nat × LW)} {w0:nN} {h:List (Nat × Obj)} {F:LX→Prop}
theorem trueL_c (ρ:Nat->bT):∀ i k,factL (fun _ _ _=>True) ρ i k=trueL k
 | _,0=>rfl
 | i,k+1=>congrArg (KD _) (trueL_c ρ (i+1) k)
theorem jM {id:Nat} {ops:Array Me} {y:L6} (fn:Func) (m:Nat) (keep hb:List Nat) (vs:List LW) (nss:List (List Nat))
 (k:Ok P y Q n (A7 (eP fn id) l (mv (fun _=>vs) jZ) keep) w0 (uU hb (zO m h (me (fun _=>[]) jZ))) F)
 (hc:∀ ρ z,chkL P (eP fn id) (dsq m) l h (mv (fun _=>vs)) (me (fun _=>[])) ρ z 0 nss=chkR P (eP fn id) (dsq m) l h (mv (fun _=>vs)) (me (fun _=>[])) ρ z 0 nss:=by intros;kernel_rfl)
 (hm:m<=nss.length:=by exact Nat.le_of_ble_eq_true rfl)
 (hloc:∀ ρ,AZ (fun _=>vs) (fun _=>[]) (fun _=>[]) ρ m=A8 (dsq m) (fun _=>vs) (fun _=>[]) (fun _=>[]) ρ m:=by intros;kernel_rfl) (e:ops=eP fn id:=by kernel_rfl) (hchk:sqOk (eP fn id) m n l keep=true:=by kernel_rfl):Ok P (.seq (.region id ops false) y) Q n l w0 h F :=
 sS fn m keep hb (fun _=>vs) (fun _=>[]) (cR nss (cN (by rw [Lt];exact hm)) hc (fun ρ=>trueL_c ρ 0 nss.length)) (fun _=>k) hloc e hchk
theorem jL {id:Nat} {ops:Array Me} (fn:Func) (m:Nat) (keep hb:List Nat) (vs:List LW) (nss:List (List Nat))
 (k:mY (Q .normal) n (A7 (eP fn id) l (mv (fun _=>vs) jZ) keep) w0 (uU hb (zO m h (me (fun _=>[]) jZ))) F)
 (hc:∀ ρ z,chkL P (eP fn id) (dsq m) l h (mv (fun _=>vs)) (me (fun _=>[])) ρ z 0 nss=chkR P (eP fn id) (dsq m) l h (mv (fun _=>vs)) (me (fun _=>[])) ρ z 0 nss:=by intros;kernel_rfl)
 (hm:m<=nss.length:=by exact Nat.le_of_ble_eq_true rfl)
 (hloc:∀ ρ,AZ (fun _=>vs) (fun _=>[]) (fun _=>[]) ρ m=A8 (dsq m) (fun _=>vs) (fun _=>[]) (fun _=>[]) ρ m:=by intros;kernel_rfl) (e:ops=eP fn id:=by kernel_rfl) (hchk:sqOk (eP fn id) m n l keep=true:=by kernel_rfl):Ok P (.region id ops false) Q n l w0 h F :=
 rS fn m keep hb (fun _=>vs) (fun _=>[]) (cR nss (cN (by rw [Lt];exact hm)) hc (fun ρ=>trueL_c ρ 0 nss.length)) (fun _=>k) hloc e hchk
theorem jJ {id:Nat} {ops:Array Me} {y:L6} (fn:Func) (m:Nat) (keep:List Nat) (vs:List LW)
 (k:Ok P y Q n (A7 (eP fn id) l (mv (fun _=>vs) jZ) keep) w0 (uU [] (zO m h (me (fun _=>[]) jZ))) F)
 (hc:∀ ρ z,chkL P (eP fn id) (dsq m) l h (mv (fun _=>vs)) (me (fun _=>[])) ρ z 0 (I4 m [])=chkR P (eP fn id) (dsq m) l h (mv (fun _=>vs)) (me (fun _=>[])) ρ z 0 (I4 m []):=by intros;kernel_rfl)
 (hloc:∀ ρ,AZ (fun _=>vs) (fun _=>[]) (fun _=>[]) ρ m=A8 (dsq m) (fun _=>vs) (fun _=>[]) (fun _=>[]) ρ m:=by intros;kernel_rfl) (e:ops=eP fn id:=by kernel_rfl) (hchk:sqOk (eP fn id) m n l keep=true:=by kernel_rfl):Ok P (.seq (.region id ops false) y) Q n l w0 h F :=
 jM fn m keep [] vs (I4 m []) k hc (Nat.le_of_eq (List.length_replicate).symm) hloc e hchk
end
theorem Calls.cW {P:LY} {l:List (Nat × LW)} {R:L8->LX->Prop} (n:Nat) (F:LX->Prop) {f:Md} {fn:Func} {c:L6} {args:Array LW} (hf:P.funcs[f]? = some fn) (hb:fn.body=some c) (hn:fn.ntmps=n) (hl:(args.toList.zipIdx.map fun x=>(x.2,x.1))=l)
 (hF:bZ (fun _=>False) F w) (h:Ok P c (bodyPost P fn R) n l ⟨w,[]⟩ [] F) (ha:args.size<=n:=by simp):Calls P f args w R:=Calls.of_ok hf hb hn hl ha hF h
theorem kr {α:Sort _} {a b:α} (h:a=b:=by kernel_rfl):a=b:=h
abbrev eN {β:Type} (_:α):List β:=[]
theorem tV {α:Sort _} {β:α->Sort _}:∀ a,β a->True:=fun _ _=>trivial
theorem jO (b:Bool):b=true\/b=false:=Bool.eq_false_or_eq_true b
theorem lb {a b:Nat} (h:Nat.ble a b=true:=by rfl):a<=b:=Jj h
theorem oA {q:Prop} (a:q) (h:q->p:=by omega):p:=h a
theorem oS (h:p:=by simp only [List.length_append,List.length_cons,List.length_nil];omega):p:=h
theorem oU {q:Prop} (a:q) (h:q->p:=by intro _;simp only [List.length_append,List.length_cons,List.length_nil];omega):p:=h a
theorem jP {a b:Bool} (h:a=b):Lh a=Lh b:=congrArg Lh h
theorem oB {q r:Prop} (a:q) (b:r) (h:q->r->p:=by omega):p:=h a b
abbrev jR (v:LW) (w0:LX):L8->LX->Prop:=fun ε w'=>ε=.returned v/\Below w0.heap.size w0 w'
abbrev jG (w0 w':LX):Prop:=Below w0.heap.size w0 w'
theorem jB {a b:Bool} (h:a=b):Jv (.bool a)=Jv (.bool b):=congrArg (fun x=>Jv (.bool x)) h
theorem jI {a:Int} (h:a=b):JV .i64 a=JV .i64 b:=congrArg _ h
theorem jN {a:Int} (h:a=b):JV .u32 a=JV .u32 b:=congrArg _ h
theorem jK [BEq α] {a b c:α} {r:Bool} (h:a=b) (e:(b==c)=r):(a==c)=r:=by rw [h];exact e
theorem jT:bZ (fun _=>False) (fun _=>True) w:=dL (fun _=>trivial)
section
variable {P:LY} {ops:Array Me} {D:List Nat} {l:List (Nat × LW)} {w0:nN} {h:List (Nat × Obj)} {F0:LX→Prop}
variable {vals:(Nat→bT)→Nat→LW} {effs:(Nat→bT)→Nat→qJ} {fact:(Nat→bT)→Nat→LX→Prop}
theorem iM.fn {i:Nat} (hG:iM ops D w0 h F0 effs fact i ρ T w):F0 w:=hG.iE.now
theorem jS {i:Nat} (x:(Nat->bT)->Sem LW) (v:(Nat->bT)->LW) (hr:∀ ρ w,(do pure (IL (<- x ρ)):Sem Next).run P w=.ok (.value (v ρ)) w)
 (hc:∀ ρ,Ah ops (vals ρ) (vals (dU ρ i {}) i) (effs (dU ρ i {}) i) i=some (v ρ,{}):=by intros;kernel_rfl) (hx:∀ ρ,execOp (eX ops D l (vals ρ) i) (iR ops i)=(do pure (IL (<- x ρ))):=by intros;kernel_rfl):mW P ops D l w0 h F0 vals effs (fun _ _ _=>True) i:=o_sem i (fun ρ=>do pure (IL (<- x ρ))) v hc hx hr
theorem jF {i:Nat} (x:(Nat->bT)->Sem LW) (v:(Nat->bT)->LW) (hr:∀ ρ T w,iM ops D w0 h F0 effs fact i ρ T w->(do pure (IL (<- x ρ)):Sem Next).run P w=.ok (.value (v ρ)) w) (hf:∀ ρ T w,iM ops D w0 h F0 effs fact i ρ T w->bZ T (fact (dU ρ i {}) i) w)
 (hc:∀ ρ,Ah ops (vals ρ) (vals (dU ρ i {}) i) (effs (dU ρ i {}) i) i=some (v ρ,{}):=by intros;kernel_rfl) (hx:∀ ρ,execOp (eX ops D l (vals ρ) i) (iR ops i)=(do pure (IL (<- x ρ))):=by intros;kernel_rfl):mW P ops D l w0 h F0 vals effs fact i:=o_semF i (fun ρ=>do pure (IL (<- x ρ))) v hc hx hr hf
theorem jE {m i:Nat} (nss:List (List Nat)) (hm:m<=i+nss.length:=by exact Nat.le_of_ble_eq_true rfl)
 (hc:∀ ρ z,chkL P ops D l h vals effs ρ z i nss=chkR P ops D l h vals effs ρ z i nss:=by intros;kernel_rfl)
 (hf:∀ ρ,factL fact ρ i nss.length=trueL nss.length:=by intros;kernel_rfl):fK m (mW P ops D l w0 h F0 vals effs fact) i:=cR nss (cN hm) hc hf
theorem jX {m i:Nat} (n:Nat) (hm:m<=i+(I4 n ([]:List Nat)).length:=by exact Nat.le_of_ble_eq_true rfl)
 (hc:∀ ρ z,chkL P ops D l h vals effs ρ z i (I4 n [])=chkR P ops D l h vals effs ρ z i (I4 n []):=by intros;kernel_rfl)
 (hf:∀ ρ,factL fact ρ i (I4 n ([]:List Nat)).length=trueL (I4 n ([]:List Nat)).length:=by intros;kernel_rfl):fK m (mW P ops D l w0 h F0 vals effs fact) i:=jE (I4 n []) hm hc hf
theorem jY {m i:Nat} (n:Nat) (t:fK m (mW P ops D l w0 h F0 vals effs fact) (i+(I4 n ([]:List Nat)).length))
 (hc:∀ ρ z,chkL P ops D l h vals effs ρ z i (I4 n [])=chkR P ops D l h vals effs ρ z i (I4 n []):=by intros;kernel_rfl)
 (hf:∀ ρ,factL fact ρ i (I4 n ([]:List Nat)).length=trueL (I4 n ([]:List Nat)).length:=by intros;kernel_rfl):fK m (mW P ops D l w0 h F0 vals effs fact) i:=cR (I4 n []) t hc hf
theorem jW {m i:Nat} (x:(Nat->bT)->Int) (y:(Nat->bT)->Nat) (he:∀ ρ,Je.wrap (x ρ)=(y ρ:Int)) (t:fK m (mW P ops D l w0 h F0 vals effs fact) (i+1))
 (hc:∀ ρ z,rQ P ops D l (vals ρ) (vals (dU ρ i {}) i) (effs (dU ρ i {}) i) i z=some (.value (.int .i64 (Je.wrap (x ρ))),[],[],.int .i64 (y ρ:Int),{}):=by intros;kernel_rfl) (hF:∀ ρ,fact ρ i=fun _=>True:=by intros;kernel_rfl):fK m (mW P ops D l w0 h F0 vals effs fact) i :=
 cA (v:=fun ρ=>.int .i64 (Je.wrap (x ρ))) (fun ρ=>.int .i64 (y ρ:Int)) (fun ρ=>jI (he ρ)) t hc hF
theorem jU {m i:Nat} (x:(Nat->bT)->Int) (y:(Nat->bT)->Int) (he:∀ ρ,Je.wrap (x ρ)=y ρ) (t:fK m (mW P ops D l w0 h F0 vals effs fact) (i+1))
 (hc:∀ ρ z,rQ P ops D l (vals ρ) (vals (dU ρ i {}) i) (effs (dU ρ i {}) i) i z=some (.value (.int .i64 (Je.wrap (x ρ))),[],[],.int .i64 (y ρ),{}):=by intros;kernel_rfl) (hF:∀ ρ,fact ρ i=fun _=>True:=by intros;kernel_rfl):fK m (mW P ops D l w0 h F0 vals effs fact) i :=
 cA (v:=fun ρ=>.int .i64 (Je.wrap (x ρ))) (fun ρ=>.int .i64 (y ρ)) (fun ρ=>jI (he ρ)) t hc hF
theorem jQ {m i:Nat} (x:(Nat->bT)->Bool) (y:Bool) (he:∀ ρ,x ρ=y) (t:fK m (mW P ops D l w0 h F0 vals effs fact) (i+1))
 (hc:∀ ρ z,rQ P ops D l (vals ρ) (vals (dU ρ i {}) i) (effs (dU ρ i {}) i) i z=some (.value (.bool (x ρ)),[],[],.bool y,{}):=by intros;kernel_rfl) (hF:∀ ρ,fact ρ i=fun _=>True:=by intros;kernel_rfl):fK m (mW P ops D l w0 h F0 vals effs fact) i :=
 cA (v:=fun ρ=>.bool (x ρ)) (fun _=>.bool y) (fun ρ=>congrArg Lh (he ρ)) t hc hF
end
section
variable {P:LY} {ops:Array Me} {D:List Nat} {l:List (Nat × LW)} {w0:nN} {h:List (Nat × Obj)} {F0:LX→Prop}
variable {vals:(Nat→bT)→Nat→LW} {effs:(Nat→bT)→Nat→qJ} {fact:(Nat→bT)→Nat→LX→Prop} {m i:Nat}
theorem eU {v:LW} (v':LW) (he:v=v') (t:fK m (mW P ops D l w0 h F0 vals effs fact) (i+1))
 (hc:∀ ρ z,rQ P ops D l (vals ρ) (vals (dU ρ i {}) i) (effs (dU ρ i {}) i) i z=some (.value v,[],[],v',{}):=by intros;kernel_rfl) (hF:∀ ρ,fact ρ i=fun _=>True:=by intros;kernel_rfl):fK m (mW P ops D l w0 h F0 vals effs fact) i:=cA (v:=fun _=>v) (fun _=>v') (fun _=>he) t hc hF
theorem DV (x:Int) (y:Nat) (he:Je.wrap x=(y:Int)) (t:fK m (mW P ops D l w0 h F0 vals effs fact) (i+1))
 (hc:∀ ρ z,rQ P ops D l (vals ρ) (vals (dU ρ i {}) i) (effs (dU ρ i {}) i) i z=some (.value (.int .i64 (Je.wrap x)),[],[],.int .i64 (y:Int),{}):=by intros;kernel_rfl) (hF:∀ ρ,fact ρ i=fun _=>True:=by intros;kernel_rfl):fK m (mW P ops D l w0 h F0 vals effs fact) i:=jW (fun _=>x) (fun _=>y) (fun _=>he) t hc hF
theorem oD {x:Int} {y:Nat} (he:Je.wrap x=(y:Int)) (t:fK m (mW P ops D l w0 h F0 vals effs fact) (i+1))
 (hc:∀ ρ z,rQ P ops D l (vals ρ) (vals (dU ρ i {}) i) (effs (dU ρ i {}) i) i z=some (.value (.int .i64 (Je.wrap x)),[],[],.int .i64 (y:Int),{}):=by intros;kernel_rfl) (hF:∀ ρ,fact ρ i=fun _=>True:=by intros;kernel_rfl):fK m (mW P ops D l w0 h F0 vals effs fact) i:=DV x y he t hc hF
theorem jUc (x y:Int) (he:Je.wrap x=y) (t:fK m (mW P ops D l w0 h F0 vals effs fact) (i+1))
 (hc:∀ ρ z,rQ P ops D l (vals ρ) (vals (dU ρ i {}) i) (effs (dU ρ i {}) i) i z=some (.value (.int .i64 (Je.wrap x)),[],[],.int .i64 y,{}):=by intros;kernel_rfl) (hF:∀ ρ,fact ρ i=fun _=>True:=by intros;kernel_rfl):fK m (mW P ops D l w0 h F0 vals effs fact) i:=jU (fun _=>x) (fun _=>y) (fun _=>he) t hc hF
theorem FC (x:Int) (he: -9223372036854775808<=x/\x<9223372036854775808) (t:fK m (mW P ops D l w0 h F0 vals effs fact) (i+1))
 (hc:∀ ρ z,rQ P ops D l (vals ρ) (vals (dU ρ i {}) i) (effs (dU ρ i {}) i) i z=some (.value (.int .i64 (Je.wrap x)),[],[],.int .i64 x,{}):=by intros;kernel_rfl) (hF:∀ ρ,fact ρ i=fun _=>True:=by intros;kernel_rfl):fK m (mW P ops D l w0 h F0 vals effs fact) i:=jUc x x (JS _ om) t hc hF
theorem xU (x y:Bool) (he:x=y) (t:fK m (mW P ops D l w0 h F0 vals effs fact) (i+1))
 (hc:∀ ρ z,rQ P ops D l (vals ρ) (vals (dU ρ i {}) i) (effs (dU ρ i {}) i) i z=some (.value (.bool x),[],[],.bool y,{}):=by intros;kernel_rfl) (hF:∀ ρ,fact ρ i=fun _=>True:=by intros;kernel_rfl):fK m (mW P ops D l w0 h F0 vals effs fact) i:=jQ (fun _=>x) y (fun _=>he) t hc hF
theorem oO {f:Md} {args:Array LW} {v:LW} (hf:∀ w,Calls P f args w (fun e w'=>e=.returned v/\Below w.heap.size w w')) (t:fK m (mW P ops D l w0 h F0 vals effs fact) (i+1))
 (hc:∀ ρ z,rQ P ops D l (vals ρ) (vals (dU ρ i {}) i) (effs (dU ρ i {}) i) i z=some (.enter f args,[],[],v,{}):=by intros;kernel_rfl) (hF:∀ ρ,fact ρ i=fun _=>True:=by intros;kernel_rfl):fK m (mW P ops D l w0 h F0 vals effs fact) i:=cC (args:=fun _=>args) (v:=fun _=>v) (fun _=>hf) t hc hF
theorem l7 (ns:List Nat) {f:Md} {args:Array LW} {v:LW} {K K':List (Nat × Obj)}
 (hf:∀ w,bI K w->bZ (fun b=>b∈K.map (·.1)) (fun _=>True) w->Calls P f args w (fun e w'=>e=.returned v/\pG (fun b=>b∈K.map (·.1)) w w'/\bI K' w')) (t:fK m (mW P ops D l w0 h F0 vals effs fact) (i+1))
 (hc:∀ ρ z,iG P ops D l (vals ρ) i z=some (.enter f args,[],[]):=by intros;kernel_rfl)
 (hv:∀ ρ,vals (dU ρ i {}) i=v:=by intros;kernel_rfl) (he:∀ ρ r,effs (dU ρ i r) i={ puts:=ns.zip K'}:=by intros;kernel_rfl)
 (hn:∀ ρ,fM ops D h (effs ρ) i ns=true:=by intros;kernel_rfl) (hk:∀ ρ,YtegagmoldjiaaaaGreatDoor.gG ops D h (effs ρ) i ns=K:=by intros;kernel_rfl) (hl:K'.map (·.1)=K.map (·.1):=by kernel_rfl)
 (hF:∀ ρ,fact ρ i=fun _=>True:=by intros;kernel_rfl):fK m (mW P ops D l w0 h F0 vals effs fact) i :=
 cX (qW ns (args:=fun _=>args) (v:=fun _=>v) (K:=fun _=>K) (K':=fun _=>K') (fun ρ _ w hG hK=>hf w hK (hG.pK ns tV (hn ρ) (hk ρ))) hc hv he hn hk (fun _=>hl) hF) t
theorem pI (x:Sem LW) (v:LW) (hr:∀ w,(do pure (IL (<- x)):Sem Next).run P w=.ok (.value v) w) (t:fK m (mW P ops D l w0 h F0 vals effs (fun _ _ _=>True)) (i+1))
 (hc:∀ ρ,Ah ops (vals ρ) (vals (dU ρ i {}) i) (effs (dU ρ i {}) i) i=some (v,{}):=by intros;kernel_rfl) (hx:∀ ρ,execOp (eX ops D l (vals ρ) i) (iR ops i)=(do pure (IL (<- x))):=by intros;kernel_rfl):fK m (mW P ops D l w0 h F0 vals effs (fun _ _ _=>True)) i:=cX (jS (fun _=>x) (fun _=>v) (fun _=>hr) hc hx) t
theorem qSc {s:Sem Next} {v:LW} (hr:∀ w,s.run P w=.ok (.value v) w) (t:fK m (mW P ops D l w0 h F0 vals effs (fun _ _ _=>True)) (i+1))
 (hc:∀ ρ,Ah ops (vals ρ) (vals (dU ρ i {}) i) (effs (dU ρ i {}) i) i=some (v,{}):=by intros;kernel_rfl)
 (hx:∀ ρ,execOp (eX ops D l (vals ρ) i) (iR ops i)=s:=by intros;kernel_rfl):fK m (mW P ops D l w0 h F0 vals effs (fun _ _ _=>True)) i:=cX (qS (s:=fun _=>s) (v:=fun _=>v) (fun _=>hr) hc hx) t
theorem nM {s:(Nat->bT)->Sem Next} {v:(Nat->bT)->LW} (hr:∀ {ρ T w},iM ops D w0 h F0 effs fact i ρ T w->(s ρ).run P w=.ok (.value (v ρ)) w) (t:fK m (mW P ops D l w0 h F0 vals effs fact) (i+1))
 (hc:∀ ρ,Ah ops (vals ρ) (vals (dU ρ i {}) i) (effs (dU ρ i {}) i) i=some (v ρ,{}):=by intros;kernel_rfl)
 (hx:∀ ρ,execOp (eX ops D l (vals ρ) i) (iR ops i)=s ρ:=by intros;kernel_rfl) (ht:∀ ρ,fact ρ i=fun _=>True:=by intros;kernel_rfl):fK m (mW P ops D l w0 h F0 vals effs fact) i:=cX (qF (fun _ _ _ hG=>hr hG) hc hx ht) t
theorem zW {f:Md} {args:(Nat->bT)->Array LW} {v:(Nat->bT)->LW} (hf:∀ {ρ T w},iM ops D w0 h F0 effs fact i ρ T w->Calls P f (args ρ) w (fun e w'=>e=.returned (v ρ)/\Below w.heap.size w w')) (t:fK m (mW P ops D l w0 h F0 vals effs fact) (i+1))
 (hc:∀ ρ z,iG P ops D l (vals ρ) i z=some (.enter f (args ρ),[],[]):=by intros;kernel_rfl)
 (hv:∀ ρ,vals (dU ρ i {}) i=v ρ:=by intros;kernel_rfl) (he:∀ ρ r,effs (dU ρ i r) i={}:=by intros;kernel_rfl) (ht:∀ ρ,fact ρ i=fun _=>True:=by intros;kernel_rfl):fK m (mW P ops D l w0 h F0 vals effs fact) i:=cX (qC (fun _ _ _ hG=>hf hG) hc hv he ht) t
theorem qBc {f:Md} {args:(Nat->bT)->Array LW} {v:(Nat->bT)->OA->Nat->LW} {xs:(Nat->bT)->LU} (hf:∀ {ρ T w},iM ops D w0 h F0 effs fact i ρ T w->Calls P f (args ρ) w (fun e w'=>∃ a c,e=.returned (v ρ a c)/\Below w.heap.size w w'/\Fs w w' a c (xs ρ))) (t:fK m (mW P ops D l w0 h F0 vals effs fact) (i+1))
 (hc:∀ ρ z,iG P ops D l (vals ρ) i z=some (.enter f (args ρ),[],[]):=by intros;kernel_rfl)
 (hv:∀ ρ r,vals (dU ρ i r) i=v ρ r.a (r.n.headD 0):=by intros;kernel_rfl) (he:∀ ρ r,effs (dU ρ i r) i={}:=by intros;kernel_rfl) (ht:∀ ρ r,fact (dU ρ i r) i=(fun w=>Fs w0.w w r.a (r.n.headD 0) (xs ρ)):=by intros;kernel_rfl):fK m (mW P ops D l w0 h F0 vals effs fact) i:=cX (qB (fun _ _ _ hG=>hf hG) hc hv he ht) t
theorem uP (n:Nat) (t:LZ) (g off:Nat) (C:Array LW) (T:LZ) (v:LW) (ha:∀ w,(isAgg t).run P w=.ok false w) (hg:C[off]? = some v) (k:fK m (mW P ops D l w0 h F0 vals effs (fun _ _ _=>True)) (i+1))
 (hc:∀ ρ,ldChk ops D l h (vals ρ) (effs ρ) (vals (dU ρ i {}) i) (effs (dU ρ i {}) i) i n=some (t,.pointer (some ⟨g,off,none⟩),[(g,.cells C T (0,0))],v,{}):=by intros;kernel_rfl):fK m (mW P ops D l w0 h F0 vals effs (fun _ _ _=>True)) i:=cX (o_ld i n t (fun _=>g) (fun _=>off) (fun _=>C) T (0,0) (fun _=>v) hc ha (fun _=>hg)) k
theorem CW (n:Nat) (t:LZ) (g off:Nat) (C C':Array LW) (T:LZ) (x:LW)
 (hs:∀ w,(sizeOf t).run P w=.ok 1 w) (hlt:off<C.size) (hC:C.setIfInBounds off x=C') (k:fK m (mW P ops D l w0 h F0 vals effs (fun _ _ _=>True)) (i+1))
 (hc:∀ ρ,stChk ops D l h (vals ρ) (effs ρ) (vals (dU ρ i {}) i) (effs (dU ρ i {}) i) i n=some (t,.pointer (some ⟨g,off,none⟩),x,[(g,.cells C T (0,0))],LV,{ puts:=[(n,g,.cells C' T (0,0))]}):=by intros;kernel_rfl) (hp:plainV x=true:=by rfl):fK m (mW P ops D l w0 h F0 vals effs (fun _ _ _=>True)) i:=cX (o_st i n t (fun _=>g) (fun _=>off) (fun _=>C) (fun _=>C') T (fun _=>x) hc hs (fun _=>hp) (fun _=>hlt) (fun _=>hC)) k
end
section
variable {P:LY} {Q:L9→Act→LX→Prop} {n:Nat} {l:List (Nat × LW)} {w0:nN} {h:List (Nat × Obj)} {F:LX→Prop} {id:Nat} {ops:Array Me} {y:L6}
theorem aY (fn:Func) (m:Nat) (keep hb:List Nat) (vs:List LW) (es:List (Nat × qJ)) (c:fK m (mW P (eP fn id) (dsq m) l w0 h F (mv (fun _=>vs)) (me (fun _=>es)) (fun _ _ _=>True)) 0)
 (k:Ok P y Q n (A7 (eP fn id) l (mv (fun _=>vs) jZ) keep) w0 (uU hb (zO m h (me (fun _=>es) jZ))) F)
 (hloc:∀ ρ,AZ (fun _=>vs) (fun _=>es) (fun _=>[]) ρ m=A8 (dsq m) (fun _=>vs) (fun _=>es) (fun _=>[]) ρ m:=by intros;kernel_rfl) (e:ops=eP fn id:=by kernel_rfl) (hchk:sqOk (eP fn id) m n l keep=true:=by kernel_rfl):Ok P (.seq (.region id ops false) y) Q n l w0 h F:=sS fn m keep hb (fun _=>vs) (fun _=>es) c (fun _=>k) hloc e hchk
theorem lV (fn:Func) (m:Nat) (keep hb:List Nat) (vs:List LW) (es:List (Nat × qJ)) (c:fK m (mW P (eP fn id) (dsq m) l w0 h F (mv (fun _=>vs)) (me (fun _=>es)) (fun _ _ _=>True)) 0)
 (k:mY (Q .normal) n (A7 (eP fn id) l (mv (fun _=>vs) jZ) keep) w0 (uU hb (zO m h (me (fun _=>es) jZ))) F)
 (hloc:∀ ρ,AZ (fun _=>vs) (fun _=>es) (fun _=>[]) ρ m=A8 (dsq m) (fun _=>vs) (fun _=>es) (fun _=>[]) ρ m:=by intros;kernel_rfl) (e:ops=eP fn id:=by kernel_rfl) (hchk:sqOk (eP fn id) m n l keep=true:=by kernel_rfl):Ok P (.region id ops false) Q n l w0 h F:=rS fn m keep hb (fun _=>vs) (fun _=>es) c (fun _=>k) hloc e hchk
theorem Au (fn:Func) (D:List Nat) (m:Nat) (keep hb:List Nat) (vs:List LW) (es:List (Nat × qJ)) (c:fK m (mW P (eP fn id) D l w0 h F (mv (fun _=>vs)) (me (fun _=>es)) (fun _ _ _=>True)) 0)
 (k:Ok P y Q n (A7 (eP fn id) l (mv (fun _=>vs) jZ) keep) w0 (uU hb (zO m h (me (fun _=>es) jZ))) F)
 (hloc:∀ ρ,AZ (fun _=>vs) (fun _=>es) (fun _=>[]) ρ m=A8 D (fun _=>vs) (fun _=>es) (fun _=>[]) ρ m:=by intros;kernel_rfl) (e:ops=eP fn id:=by kernel_rfl) (hchk:drOk (eP fn id) D m n l keep=true:=by kernel_rfl) (hm:P.follows .mixedOrders=true:=by kernel_rfl):Ok P (.seq (.region id ops true) y) Q n l w0 h F:=sD fn D m keep hb (fun _=>vs) (fun _=>es) c (fun _=>k) hloc e hchk hm
theorem rDc (fn:Func) (D:List Nat) (m:Nat) (keep hb:List Nat) (vs:List LW) (es:List (Nat × qJ)) (c:fK m (mW P (eP fn id) D l w0 h F (mv (fun _=>vs)) (me (fun _=>es)) (fun _ _ _=>True)) 0)
 (k:mY (Q .normal) n (A7 (eP fn id) l (mv (fun _=>vs) jZ) keep) w0 (uU hb (zO m h (me (fun _=>es) jZ))) F)
 (hloc:∀ ρ,AZ (fun _=>vs) (fun _=>es) (fun _=>[]) ρ m=A8 D (fun _=>vs) (fun _=>es) (fun _=>[]) ρ m:=by intros;kernel_rfl) (e:ops=eP fn id:=by kernel_rfl) (hchk:drOk (eP fn id) D m n l keep=true:=by kernel_rfl) (hm:P.follows .mixedOrders=true:=by kernel_rfl):Ok P (.region id ops true) Q n l w0 h F:=rD fn D m keep hb (fun _=>vs) (fun _=>es) c (fun _=>k) hloc e hchk hm
end
end
variable {P:LY}
theorem CV {e:LZ} (he:P.underlying e=some (.int k)) (xs:Array LW) (i:Nat) (v:LW) (hx:xs[i]? = some v) (w:LX):(part e xs i).run P w=.ok v w:=by
 have hagg:(isAgg e).run P w=.ok false w:=by
  unfold isAgg
  rw [IY,run_underlying he w];simp
 simp [part,IY,hagg,hx]
theorem run_equalIn_int {e:LZ} (d:Nat) (he:P.underlying e=some (.int k)) (a b:Int) (w:LX):(KI (d+1) e (.int k a) (.int k b)).run P w=.ok (a==b) w:=by
 simp [KI,run_underlying he]
theorem EC {t e : LZ} (ht : P.underlying t = some (.array n e)) (he : P.underlying e = some (.int k)) (hs : (P.info? e).map (·.size) = some 1)
 (f g:Nat->Int) (xs ys:Array LW) (hx:∀ i,i<n->xs[i]? = some (.int k (f i))) (hy:∀ i,i<n->ys[i]? = some (.int k (g i))) (d:Nat) (w:LX) :
 (KI (d+2) t (.agg xs) (.agg ys)).run P w=.ok (decide (∀ i,i<n->f i=g i)) w:=by
 have hsz:∀ w,(sizeOf e).run P w=.ok 1 w:=by
  intro w
  cases hq:P.info? e with
  | none=>simp [hq] at hs
  | some i=>simp [hq] at hs;simp [sizeOf,typeInfo,hq,hs]
 rw [KI]
 simp only [IY,run_underlying ht,Ja,hsz,Nat.mul_one]
 have key:∀ (m s:Nat),s+m=n->∀ w (b:Bool),(b=true↔∀ i,s<=i->i<n->f i=g i)->(forIn (m:=Sem) (List.range' s m) ((none:Option Bool),()) (fun i _=>do
  let a <- part e xs i
  let b <- part e ys i
  let r <- KI (d+1) e a b
  if (!r)=true then pure (ForInStep.done (some false,())) else pure (ForInStep.yield (none,())))).run P w =
   .ok (if b then (none,()) else (some false,())) w:=by
  intro m
  induction m with
  | zero =>
    intro s hs w b hb
    rw [if_pos (hb.2 (fun i h1 h2=>by omega))]
    simp
  | succ m ih =>
    intro s hs w b hb
    rw [List.range'_succ,List.forIn_cons]
    simp only [IY,CV he xs s _ (hx s om),CV he ys s _ (hy s om),Ja,run_equalIn_int d he]
    by_cases h:f s=g s
    ·rw [h]
     simp only [beq_self_eq_true,Bool.not_true,Jf,if_false,Jn,Ja]
     refine ih (s+1) om w b (hb.trans ⟨fun q i h1 h2=>q i om h2,fun q i h1 h2=>?_⟩)
     by_cases e:i=s
     ·rw [e];exact h
     ·exact q i om h2
    ·have hf : (f s == g s) = false := by simpa using h
     have hb':b=false:=by
      cases b with
      | false=>rfl
      | true=>exact absurd (hb.1 rfl s om om) h
     rw [hf,hb']
     simp
 simp only [Std.Legacy.Range.forIn_eq_forIn_range',Std.Legacy.Range.size]
 have h0:=key n 0 om w (decide (∀ i,i<n->f i=g i)) (by simp)
 simp only [Nat.sub_zero,Nat.add_one_sub_one,Nat.div_one]
 rw [h0]
 by_cases hall:∀ i,i<n->f i=g i
 ·rw [decide_eq_true hall];simp
 ·rw [decide_eq_false hall];simp
theorem run_eql_ints {t e:LZ} (ht:P.underlying t=some (.array n e)) (he:P.underlying e=some (.int k)) (hs:(P.info? e).map (·.size)=some 1)
 (f g:Nat->Int) (xs ys:Array LW) (hx:∀ i,i<n->xs[i]? = some (.int k (f i))) (hy:∀ i,i<n->ys[i]? = some (.int k (g i))) (w:LX) :
 (binOp .eql t (.agg xs) (.agg ys)).run P w=.ok (.bool (decide (∀ i,i<n->f i=g i))) w:=by
 simp only [binOp]
 simp [Op.equal,Op.maxDepth,EC ht he hs f g xs ys hx hy 9998 w]
theorem GV {t e:LZ} (ht:P.underlying t=some (.array n e)) (he:P.underlying e=some (.int k)) (hs:(P.info? e).map (·.size)=some 1)
 (f g:Nat->Int) (xs ys:Array LW) (hx:∀ i,i<n->xs[i]? = some (.int k (f i))) (hy:∀ i,i<n->ys[i]? = some (.int k (g i))) (w:LX) :
 (binOp .neq t (.agg xs) (.agg ys)).run P w=.ok (.bool (!decide (∀ i,i<n->f i=g i))) w:=by
 simp only [binOp]
 simp [Op.equal,Op.maxDepth,EC ht he hs f g xs ys hx hy 9998 w]
theorem vW (i:Nat):wd 0 i=0:=by unfold wd;simp
theorem wd_inj {A B:Nat} (hA:A<M) (hB:B<M):(∀ i,i<4->wd A i=wd B i)↔A=B:=by
 refine ⟨fun h=>?_,fun h=>by subst h;intros;rfl⟩
 have ea:=uM A hA;have eb:=uM B hB
 rw [h 0 om,h 1 om,h 2 om,h 3 om] at ea
 omega
abbrev cU (A:Nat):Array LW:= #[.int .u64 (wd A 0),.int .u64 (wd A 1),.int .u64 (wd A 2),.int .u64 (wd A 3)]
theorem vK (A i:Nat) (h:i<4):(cU A)[i]? = some (.int .u64 (wd A i)):=by
 rcases (by omega:i=0\/i=1\/i=2\/i=3) with rfl | rfl | rfl | rfl<;>rfl
theorem eqlU (A B:Nat) (hA:A<M) (hB:B<M) (w:LX):(binOp .eql 54 (U A) (U B)).run prog w=.ok (.bool (decide (A=B))) w:=by
 rw [run_eql_ints (n:=4) (e:=52) underlying54 underlying52 (by kernel_rfl) (wd A) (wd B) _ _ (vK A) (vK B) w]
 rw [decide_eq_decide.2 (wd_inj hA hB)]
theorem neqU (A B:Nat) (hA:A<M) (hB:B<M) (w:LX):(binOp .neq 54 (U A) (U B)).run prog w=.ok (.bool (!decide (A=B))) w:=by
 rw [GV (n:=4) (e:=52) underlying54 underlying52 (by kernel_rfl) (wd A) (wd B) _ _ (vK A) (vK B) w]
 rw [decide_eq_decide.2 (wd_inj hA hB)]
theorem U0_eq:KW #[.int .u64 0,.int .u64 0,.int .u64 0,.int .u64 0]=U 0:=by
 show _=KW #[.int .u64 (wd 0 0),.int .u64 (wd 0 1),.int .u64 (wd 0 2),.int .u64 (wd 0 3)]
 rw [vW,vW,vW,vW]
theorem zL:0<M:=by rw [wZ];decide
theorem eqlU0 (A:Nat) (hA:A<M) (w:LX):(binOp .eql 54 (U A) (.agg #[.int .u64 0,.int .u64 0,.int .u64 0,.int .u64 0])).run prog w=.ok (.bool (decide (A=0))) w:=by
 rw [U0_eq];exact eqlU A 0 hA zL w
theorem byt_inj {A B:Nat} (hA:A<M) (hB:B<M):(∀ i,i<32->DD A i=DD B i)↔A=B:=by
 refine ⟨fun h=>?_,fun h=>by subst h;intros;rfl⟩
 have key:∀ k,k<=32->A / 256^(32-k)=B / 256^(32-k):=by
  intro k
  induction k with
  | zero =>
    intro _
    have e:(256:Nat)^32=M:=by rw [wZ]
    rw [Nat.sub_zero,e,JX hA,JX hB]
  | succ k ih =>
    intro hk
    have h1:=ih om
    have h2:=h k om
    unfold DD at h2
    have e1:32-k=(31-k)+1:=by omega
    rw [e1,Nat.pow_succ,<- JC,<- JC] at h1
    rw [show 32-(k+1)=31-k by omega]
    omega
 have:=key 32 om
 simpa using this
variable {zs:List Int}
section
def iv (k:Mc) (zs:List Int):List LW:=zs.map (.int k)
theorem iv_length (k:Mc) (zs:List Int):(iv k zs).length=zs.length:=KN _
def gI (zs:List Int) (i:Nat):Int:=zs.getD i 0
structure Is (w:LX) (k:Mc) (a:OA) (c:Nat) (zs:List Int):Prop where
 le:zs.length<=c
 max:zs.length<=140737488351232
 rows:Rs w a (iv k zs)
theorem Is.nil:Is w k a c []:=⟨by simp,by simp,Js rfl⟩
theorem Is.uC (h:Is w k a c zs) (hT:zH T a zs.length):bZ T (fun w=>Is w k a c zs) w :=
 (h.rows.uC (by rw [iv_length];exact hT)).mono (fun _ hr=>⟨h.le,h.max,hr⟩)
theorem Is.dW (h:Is w k a c zs):bZ (fun _=>False) (fun w=>Is w k a c zs) w:=h.uC (fun _ _ _=>id)
theorem Is.cell (h:Is w k a c zs) (hi:i<zs.length):∃ p,a=some p/\w.cell? (p.add i)=some (.int k (gI zs i)):=by
 rcases h.rows with h0 | ⟨p,rfl,hh⟩
 ·have := congrArg JP h0
  rw [iv_length] at this
  simp at this
  subst this
  simp at hi
 ·refine ⟨p, rfl, hh i _ ?_⟩
  unfold iv
  rw [I9,IR hi]
  simp [gI,List.getD,IR hi]
section
variable {P:LY} {t e:LZ}
theorem vO (ht:P.underlying t=some (.slice e)) (hs:∀ w,(sizeOf e).run P w=.ok 1 w) {ik:Mc} {z:Int} (hb:Is w ik a c zs) (hm:m=zs.length) (hz:z=(j:Int)) (hj:j<zs.length) :
 (do pure (IL (<- Jm t (.slice a m c) (.int k z))):Sem Next).run P w=.ok (.value (.pointer (zM a j))) w:=by
 subst hm hz
 obtain ⟨p,rfl,_⟩:=hb.cell hj
 have hs:=hs w
 simp [Jm,asIntOf,IY,run_underlying ht,hj,hs,zM]
theorem yL {ik:Mc} (ha:∀ w,(isAgg e).run P w=.ok false w) (hb:Is w ik a c zs) (hj:j<zs.length) :
 (do pure (IL (<- Jh e (.pointer (zM a j)))):Sem Next).run P w=.ok (.value (.int ik (gI zs j))) w:=by
 obtain ⟨p,rfl,hp⟩:=hb.cell hj
 simp only [zM,Ju,Jh,Jq,loadVar,IY,Jn,Ja,ha,Jf,if_false,load,JO,hp]
end
def kC (s p c:Nat) (d i n:Int):Array LW:=cU s++cU p++hB c++ #[.int .i64 d,.int .u32 i,.int .u32 n]
def kY (k:Ky):Array LW:=kC k.s k.p k.c k.d ((k.i:Nat):Int) ((k.n:Nat):Int)
end
variable {T:LZ} {xs ys:List LW}
section
def Ed (P:LY) (e:LZ) (sz b:Nat) (z:LW):Prop:=∃ i,P.info? e=some i/\i.size=sz/\i.bytes=b/\i.zero=some z/\z.cells.size=sz
theorem kE {P:LY} {e:LZ} {sz b:Nat} {z:LW} (h:(P.info? e).map (fun i=>(i.size,i.bytes,i.zero))=some (sz,b,some z)) (hz:z.cells.size=sz):Ed P e sz b z:=by
 rw [IM] at h
 obtain ⟨i,h1,h2⟩:=h
 simp at h2
 exact ⟨i,h1,h2.1,h2.2.1,h2.2.2,hz⟩
structure Av (C:Array LW) (sz n:Nat) (xs:List LW) (c:Nat):Prop where
 hd:C.toList.take xs.length=xs
 len:xs.length=n*sz
 le:n<=c
 size:C.size=c*sz
theorem Ee (z:Array LW) (k:Nat):(Jb z k).size=k*z.size:=by simp [Jb]
section
variable {P:LY} {t e:LZ} {sz b:Nat} {z:LW}
theorem appV_room {tx:LZ} (ht:P.underlying t=some (.slice e)) (hi:Ed P e sz b z) (hA:Av C sz n xs c) (hg:w.heap[g]? = some (.cells C e (0,0)))
 (hs:Src P sz tx x m ys w) (hr:n+m<=c) :
 ∃ w',(do pure (IL (<- I8 #[t,tx] ty #[.slice (some ⟨g,0,none⟩) n c,x])):Sem Next).run P w=.ok (.value (.slice (some ⟨g,0,none⟩) (n+m) c)) w'/\DR w w' g (.cells (lK C (n*sz) ys) e (0,0)):=by
 obtain ⟨i,h1,h2,h3,h4,h5⟩:=hi
 refine ⟨_,?_,BO hg⟩
 have hfit:n*sz+ys.length<=C.size:=by rw [hs.newsLen,hA.size,<- KC];exact KU _ hr
 have hst:=run_storeCells_at P g (n*sz) e ys 0 C w hg om hs.one
 simp only [KH] at hst
 have hrun:(I8 #[t,tx] ty #[.slice (some ⟨g,0,none⟩) n c,x]).run P w=.ok (.slice (some ⟨g,0,none⟩) (n+m) c) (w.setRow g (lK C (n*sz) ys)):=by
  unfold lK
  rcases hs.kind with ⟨e',hk⟩ | hk<;>simp [I8,run_underlying ht,run_underlying hk,sizeOf,typeInfo,h1,h2,hs.len,hr,hs.cells,JD,hst]
 rw [IY,hrun]
 rfl
theorem appV_grow {tx:LZ} (ht:P.underlying t=some (.slice e)) (hi:Ed P e sz b z) {olds:List LW}
 (ho:(Jl sz n (.slice a n c)).run P w.drew=.ok olds.toArray w.drew) (hs:Src P sz tx x m ys w) (hr:c<n+m) (hm:n+m<=140737488351232) (hmb:(n+m)*b<=140737488351232) :
 ∃ k w',(do pure (IL (<- I8 #[t,tx] ty #[.slice a n c,x])):Sem Next).run P w=.ok (.value (.slice (some ⟨w.heap.size,0,none⟩) (n+m) (n+m+k))) w'/\Ew w w' (.cells ((olds++ys).toArray++Jb z.cells k) e (0,0)):=by
 obtain ⟨i,h1,h2,h3,h4,h5⟩:=hi
 have hge:=grownCap_ge w (n+m) c e
 have hs2:Src P i.size tx x m ys w:=by grind
 have hrun:=run_append_grow_src w t tx ty e i z ht h1 h4 a n c olds (by grind) x m ys hs2 hr om (growslice_fits hr (by grind))
 refine ⟨grownCap w (n+m) c e-(n+m),w.drew.alloc (.cells ((olds++ys).toArray++Jb z.cells (grownCap w (n+m) c e-(n+m))) e),?_,⟨rfl,rfl,rfl,rfl⟩⟩
 rw [IY,hrun]
 rw [show (n+m+(grownCap w (n+m) c e-(n+m)))=grownCap w (n+m) c e by omega]
 rfl
theorem firstV_row (hg:w.heap[g]? = some (.cells C T fr)) (hA:Av C sz n xs c):(Jl sz n (.slice (some ⟨g,0,none⟩) n c)).run P w=.ok xs.toArray w:=by
 refine run_firstCells_some w sz n ⟨g,0,none⟩ n c xs hA.len (fun j v hv=>?_)
 rw [JD]
 unfold Jo
 simp [*]
 rw [<- hA.hd,Jr] at hv
 split at hv
 ·simpa using hv
 ·exact absurd hv (by simp)
theorem inpl_head {o:Nat} (h:C.toList.take xs.length=xs) (ho:o=xs.length):(lK C o ys).toList.take (xs++ys).length=xs++ys:=by
 subst ho
 unfold lK
 rw [h]
 rw [JR]
theorem appV_any {tx:LZ} (ht:P.underlying t=some (.slice e)) (hi:Ed P e sz b z) (hA:Av C sz n xs c) (hs:Src P sz tx x m ys w) (hm:n+m<=140737488351232) (hmb:(n+m)*b<=140737488351232) (hg:w.heap[g]? = some (.cells C e (0,0))) :
 ∃ r w',(do pure (IL (<- I8 #[t,tx] ty #[.slice (some ⟨g,0,none⟩) n c,x])):Sem Next).run P w=.ok (.value (.slice (some ⟨r.n.headD 0,0,none⟩) (n+m) (r.n.tail.headD 0))) w'/\Av (uO r) sz (n+m) (xs++ys) (r.n.tail.headD 0)/\H8 w w' g (r.n.headD 0) (.cells (uO r) e (0,0)):=by
 have hlen:(xs++ys).length=(n+m)*sz:=by rw [I7,hA.len,hs.newsLen,KC]
 by_cases hr:n+m<=c
 ·obtain ⟨w', h1, h2⟩ := appV_room ht hi hA hg hs hr
  have hfit:n*sz+ys.length<=C.size:=by rw [hs.newsLen,hA.size,<- KC];exact KU _ hr
  refine ⟨{ n:=[g,c],o:=[.cells (lK C (n*sz) ys) 0 (0,0)]},w',h1,⟨inpl_head hA.hd hA.len.symm,hlen,hr,?_⟩,.stay rfl h2⟩
  exact (qR _ _ _ hfit).trans hA.size
 ·obtain ⟨k, w', h1, h2⟩ := appV_grow ht hi (firstV_row (hg) hA) hs om hm hmb
  obtain ⟨i,q1,q2,q3,q4,q5⟩:=hi
  refine ⟨{ n:=[w.heap.size,n+m+k],o:=[.cells ((xs++ys).toArray++Jb z.cells k) 0 (0,0)]},w',h1,⟨?_,hlen,KF _ _,?_⟩,.grow rfl h2⟩
  ·show ((xs ++ ys).toArray ++ Jb z.cells k).toList.take _ = _
   rw [J8,JR]
  ·show ((xs ++ ys).toArray ++ Jb z.cells k).size = _
   rw [Lu,Ee,LC,hlen,q5,<- KC]
   rfl
theorem appV_nil {tx:LZ} (ht:P.underlying t=some (.slice e)) (hi:Ed P e sz b z) (hs:Src P sz tx x m ys w) (h0:0<m) (hm:m<=140737488351232) (hmb:m*b<=140737488351232) :
 ∃ k w',(do pure (IL (<- I8 #[t,tx] ty #[.slice none 0 0,x])):Sem Next).run P w=.ok (.value (.slice (some ⟨([w.heap.size,k]:List Nat).headD 0,0,none⟩) m (m+([w.heap.size,k]:List Nat).tail.headD 0))) w'/\Ew w w' (.cells (ys.toArray++Jb z.cells (([w.heap.size,k]:List Nat).tail.headD 0)) e (0,0)):=by
 obtain ⟨k,w',h1,h2⟩:=appV_grow ht hi (run_firstCells_none w.drew sz 0 0 0) hs om om (by grind)
 refine ⟨k,w',?_,?_⟩
 ·simpa using h1
 ·simpa using h2
theorem Av.fresh (hz:z.cells.size=sz) (hl:ys.length=m*sz) (k:Nat):Av (ys.toArray++Jb z.cells k) sz m ys (m+k):=by
 refine ⟨?_,hl,KF _ _,?_⟩
 ·rw [J8,JR]
 ·rw [Lu,Ee,LC,hl,hz,<- KC]
end
theorem Rs.FU {sz:Nat} (hb:w.heap[g]? = some (.cells C T fr)) (hA:Av C sz n xs c):Rs w (some ⟨g,0,none⟩) xs:=by
 refine J6 ⟨_,rfl,fun i v hv=>?_⟩
 have h1:=by
  rw [<- hA.hd,Jr] at hv
  split at hv
  ·simpa using hv
  ·exact absurd hv (by simp)
 rw [JD]
 unfold Jo
 simp [hb]
 simpa using h1
theorem Is.FU (hb:w.heap[g]? = some (.cells C T fr)) (hA:Av C 1 zs.length (iv k zs) c) (hm:zs.length<=140737488351232):Is w k (some ⟨g,0,none⟩) c zs :=
 ⟨hA.le,hm,Rs.FU hb hA⟩
def Fi (w0 w:LX) (k:Mc) (a:OA) (c:Nat) (zs:List Int):Prop:=Is w k a c zs/\∀ p,a=some p->0<zs.length->w0.heap.size<=p.block
theorem Fi.nil {w0:LX}:Fi w0 w k a c []:=⟨Is.nil,fun _ _ h=>absurd h (by simp)⟩
theorem Fi.FU {w0:LX} (hb:w0.heap.size<=g/\w.heap[g]? = some (.cells C T fr)) (hA:Av C 1 zs.length (iv k zs) c) (hm:zs.length<=140737488351232):Fi w0 w k (some ⟨g,0,none⟩) c zs :=
 ⟨Is.FU hb.2 hA hm,fun p hp _=>by grind⟩
theorem Fi.uC {T:Nat->Prop} {w0:LX} (h:Fi w0 w k a c zs) (hT:∀ b,T b->b<w0.heap.size):bZ T (fun w=>Is w k a c zs) w :=
 h.1.uC (fun p hp hn hx=>absurd (h.2 p hp hn) (by grind))
theorem St.Ep {B:nN} {h r:List (Nat × Obj)} {F:LX->Prop} (hS:St B h F w) {g0:Nat} {o0:Obj} (hB:B.ws=[g0]) (hh:h=(g0,o0)::r) {x:Nat} (hx:(x,o)∈r):B.w.heap.size<=x/\w.heap[x]? = some o:=by
 have hm:(x,o)∈h:=by grind
 refine hS.newb hm ?_
 rw [hB]
 intro h1
 obtain rfl:x=g0:=by grind
 have hn:=hS.nodup
 rw [hh,Lc,List.nodup_cons] at hn
 exact hn.1 (IX.2 ⟨_,hx,rfl⟩)
theorem GZ {P:LY} {vs:List LW} {tx e':LZ} {sz:Nat} (hk:P.underlying tx=some (.slice e')) (hb:w.heap[g]? = some (.cells vs.toArray T fr)) (hl:vs.length=m*sz) (h1:vs.all Value.oneCell'=true):Src P sz tx (.slice (some ⟨g,0,none⟩) m c) m vs w:=by
 refine Src.ofSlice w hk ⟨g,0,none⟩ m c vs hl (fun j u hu=>?_) (fun u hu=>IP.1 h1 u hu)
 rw [JD]
 unfold Jo
 simp [hb]
 simpa using hu
end
variable {a b x:Nat}
theorem wrapU (hk:k.signed=false) (x:Nat):k.wrap (x:Int)=((x%2^k.bits:Nat):Int):=by
 simp [IntKind.wrap,hk]
theorem xA (hk:k.signed=false) (h:x<2^k.bits):k.wrap (x:Int)=(x:Int):=by
 rw [wrapU hk,KG h]
theorem pM {t:LZ} {yk:Mc} (h:x<2^k.bits) (w:LX):(binOp .shr t (.int k (x:Int)) (.int yk (c:Int))).run P w=.ok (.int k ((x / 2^c:Nat):Int)) w:=by
 have e:Int.fdiv (x:Int) (2^(min (c:Int).toNat k.bits))=((x / 2^c:Nat):Int):=by
  rw [JU]
  rw [Int.fdiv_eq_ediv_of_nonneg _ (by exact Int.le_of_lt (J4 dC))]
  rw [show (2:Int)^(min c k.bits)=((2^(min c k.bits):Nat):Int) by simp,<- Int.natCast_ediv]
  congr 1
  by_cases hc:c<=k.bits
  ·rw [KO hc]
  ·rw [Nat.min_eq_right om, JX h, JX]
   exact IZ h (JZ dC om)
 simp only [binOp,Op.shift,if_neg (by omega: ¬ (c:Int)<0),e]
 rfl
theorem Ae {t:LZ} {yk:Mc} (hk:k.signed=false) (h:x*2^c<2^k.bits) (hx:0<x->c<=k.bits) (w:LX):(binOp .shl t (.int k (x:Int)) (.int yk (c:Int))).run P w=.ok (.int k ((x*2^c:Nat):Int)) w:=by
 have e:k.wrap ((x:Int)*2^(min (c:Int).toNat k.bits))=((x*2^c:Nat):Int):=by
  rw [JU]
  rcases Nat.eq_zero_or_pos x with rfl | hp
  ·simp [IntKind.wrap,hk]
  ·rw [KO (hx hp),show (x:Int)*2^c=((x*2^c:Nat):Int) by simp,xA hk h]
 simp only [binOp,Op.shift,if_neg (by omega: ¬ (c:Int)<0),e]
 rfl
theorem CJ (hk:k.signed=false) (ha:a<2^k.bits) (hb:b<2^k.bits):bits .or k (a:Int) (b:Int)=((a|||b:Nat):Int):=by
 have e:∀ n:Nat,n<2^k.bits->(BitVec.ofInt k.bits (n:Int)).toNat=n:=by
  intro n hn
  rw [Lj]
  rw [show ((2^k.bits:Nat):Int)=((2^k.bits:Nat):Int) from rfl,<- Int.natCast_emod,JU,KG hn]
 unfold bits
 simp only []
 rw [BitVec.toNat_or,e a ha,e b hb,xA hk (Nat.or_lt_two_pow ha hb)]
theorem bits_andU (hk:k.signed=false) (ha:a<2^k.bits) (hb:b<2^k.bits):bits .and k (a:Int) (b:Int)=((a&&&b:Nat):Int):=by
 have e:∀ n:Nat,n<2^k.bits->(BitVec.ofInt k.bits (n:Int)).toNat=n:=by
  intro n hn
  rw [Lj]
  rw [show ((2^k.bits:Nat):Int)=((2^k.bits:Nat):Int) from rfl,<- Int.natCast_emod,JU,KG hn]
 unfold bits
 simp only []
 rw [BitVec.toNat_and,e a ha,e b hb,xA hk (Nat.and_lt_two_pow _ hb)]
theorem run_quoU {t:LZ} (hk:k.signed=false) (hd:0<d) (hn:n<2^k.bits) (w:LX):(binOp .quo t (.int k (n:Int)) (.int k (d:Int))).run P w=.ok (.int k ((n / d:Nat):Int)) w:=by
 have e:Int.tdiv (n:Int) (d:Int)=((n / d:Nat):Int):=by rw [Kv om];simp
 have h1:n / d<2^k.bits:=Kw (KP _ _) hn
 simp only [binOp,Op.intDiv,ne_eq,not_true_eq_false,if_false,if_neg (by omega: ¬ (d:Int)=0),e,xA hk h1]
 rfl
theorem xC {t:LZ} (hd:0<d) (w:LX):(binOp .rem t (.int k (n:Int)) (.int k (d:Int))).run P w=.ok (.int k ((n%d:Nat):Int)) w:=by
 have e:Int.tmod (n:Int) (d:Int)=((n%d:Nat):Int):=by rw [Int.tmod_eq_emod_of_nonneg om];simp
 simp only [binOp,Op.intDiv,ne_eq,not_true_eq_false,if_false,if_neg (by omega: ¬ (d:Int)=0),e]
 rfl
theorem EH {t:LZ} (hd:0<d) (hn:n<9223372036854775808) (w:LX):(binOp .quo t (.int .i64 (n:Int)) (.int .i64 (d:Int))).run P w=.ok (.int .i64 ((n / d:Nat):Int)) w:=by
 have e:Int.tdiv (n:Int) (d:Int)=((n / d:Nat):Int):=by rw [Kv om];simp
 have h1:n / d<=n:=KP _ _
 have h2:Je.wrap ((n / d:Nat):Int)=((n / d:Nat):Int):=by
  generalize n / d=q at h1
  exact JS _ om
 simp only [binOp,Op.intDiv,ne_eq,not_true_eq_false,if_false,if_neg (by omega: ¬ (d:Int)=0),e,h2]
 rfl
theorem ob_lt (h:n<256):(ob (n:Int)).toNat=n:=by
 have:=ob_nat (x:=(n:Int)) ⟨by omega,by omega⟩
 omega
theorem gB_ob (xs:LU) (i:Nat):ob (gB xs i:Int)=xs.getD i 0:=by
 unfold ob gB
 simp
theorem gB_rng (xs:LU) (i:Nat):0<=((gB xs i:Nat):Int)/\((gB xs i:Nat):Int)<256:=by
 have:=gV xs i
 omega
theorem uT:vI prog 5:=u8like_of rfl
theorem bF (x y:Nat) (h:x+y<9223372036854775808):Je.wrap ((x:Int)+(y:Int))=((x+y:Nat):Int):=by
 rw [JS _ om];omega
theorem nG (x y:Nat) (h:x*y<9223372036854775808):Je.wrap ((x:Int)*(y:Int))=((x*y:Nat):Int):=by
 rw [<- Int.natCast_mul]
 exact JS _ om
theorem u64N (h:x<18446744073709551616):JI.wrap (x:Int)=(x:Int):=xA rfl h
theorem u32N (h:x<4294967296):IntKind.u32.wrap (x:Int)=(x:Int):=xA rfl h
theorem u8N (h:x<256):LP.wrap (x:Int)=(x:Int):=xA rfl h
theorem u32M (x:Nat):IntKind.u32.wrap (x:Int)=((x%4294967296:Nat):Int):=rfl
theorem u8M (x:Nat):LP.wrap (x:Int)=((x%256:Nat):Int):=rfl
theorem Es (x y:Nat) (h:x+y<18446744073709551616):JI.wrap ((x:Int)+(y:Int))=((x+y:Nat):Int):=by
 rw [<- Int.natCast_add];exact u64N h
theorem u64_mulN (x y:Nat) (h:x*y<18446744073709551616):JI.wrap ((x:Int)*(y:Int))=((x*y:Nat):Int):=by
 rw [<- Int.natCast_mul];exact u64N h
theorem u64_subN (x y:Nat) (h:y<=x) (hx:x<18446744073709551616):JI.wrap ((x:Int)-(y:Int))=((x-y:Nat):Int):=by
 rw [show x-y=((x-y:Nat):Int) by omega];exact u64N om
theorem pY {x:Int} (h: -9223372036854775808<=x/\x<9223372036854775808):Je.wrap x=x:=JS _ om
theorem u8I {x:Int} (h:0<=x/\x<256):LP.wrap x=x:=by
 obtain ⟨n,rfl⟩:=Jg h.1
 exact u8N om
theorem G9 {x:Int} (h:(x != 0)=true):x≠0:=by grind
theorem bQ {x:Int} (h:(x != 0)=false):x=0:=by grind
theorem bneN {k:Nat} (h:((x:Int) != (k:Int))=true):x≠k:=by grind
theorem bneN' {k:Nat} (h:((x:Int) != (k:Int))=false):x=k:=by grind
theorem kP {b:Bool} (h:(!b)=true):b=false:=by grind
theorem dI {b:Bool} (h:(!b)=false):b=true:=by grind
theorem take_snoc {B:LU} (h:i<B.length):B.take (i+1)=B.take i++[B.getD i 0]:=by simp_all
theorem gB_app_r (P Q:LU) (i:Nat):gB (P++Q) (P.length+i)=gB Q i:=by
 unfold gB
 rw [Ji,Ji,List.getElem?_append_right om,Nat.add_sub_cancel_left]
theorem gB_app_l {P:LU} (Q:LU) (h:i<P.length):gB (P++Q) i=gB P i:=by
 unfold gB
 rw [Ji,Ji,Kz h]
def bJ (x y:Nat):Nat:=(x+y)%4294967296
def aP (x n:Nat):Nat:=x*2^(32-n)%4294967296|||x / 2^n
def kW (x:Nat):Nat:=4294967295-x
theorem uJ (x y:Nat):bJ x y<4294967296:=LQ _ dC
theorem IC (x:Nat):kW x<4294967296:=by unfold kW;omega
theorem vP {y:Nat} (hx:x<4294967296) (hy:y<4294967296):x^^^y<4294967296:=Nat.xor_lt_two_pow (n:=32) hx hy
theorem qU (y:Nat) (hx:x<4294967296):x&&&y<4294967296:=Kw Nat.and_le_left hx
theorem BQ (n:Nat) (hx:x<4294967296):x / 2^n<4294967296:=Kw (KP _ _) hx
theorem fF (n:Nat) (hx:x<4294967296):aP x n<4294967296 :=
 Nat.or_lt_two_pow (n:=32) (LQ _ dC) (BQ n hx)
def ss0 (x:Nat):Nat:=(aP x 7^^^aP x 18)^^^x / 2^3
def ss1 (x:Nat):Nat:=(aP x 17^^^aP x 19)^^^x / 2^10
def word (X:LU) (n:Nat):Nat:=((gB X (4*n)*256+gB X (4*n+1))*256+gB X (4*n+2))*256+gB X (4*n+3)
def wstep (l:List Nat) (X:LU) (n:Nat):Nat :=
 if n<16 then word X n else bJ (bJ (bJ (l.getD 15 0) (ss0 (l.getD 14 0))) (l.getD 6 0)) (ss1 (l.getD 1 0))
def wl (X:LU):Nat->List Nat
 | 0=>[]
 | n+1=>wstep (wl X n) X n::wl X n
def wN (X:LU) (j:Nat):Nat:=(wl X (j+1)).headD 0
theorem wl_get (X:LU):∀ n k,k<n->(wl X n).getD k 0=wN X (n-1-k)
 | n+1,0,_=>rfl
 | n + 1, k + 1, h => by
   rw [show n+1-1-(k+1)=n-1-k by omega,<- wl_get X n k om]
   rfl
theorem word_lt (X:LU) (n:Nat):word X n<4294967296:=by
 unfold word
 have:=gV X (4*n);have:=gV X (4*n+1);have:=gV X (4*n+2);have:=gV X (4*n+3)
 omega
theorem wN_step (X:LU) (i:Nat):wN X i=wstep (wl X i) X i:=rfl
theorem wN_word {X:LU} (h:i<16):wN X i=word X i:=by
 rw [wN_step,wstep,if_pos h]
theorem wN_more {X:LU} (h:16<=i):wN X i=bJ (bJ (bJ (wN X (i-16)) (ss0 (wN X (i-15)))) (wN X (i-7))) (ss1 (wN X (i-2))):=by
 rw [wN_step,wstep,if_neg om,wl_get X i 15 om,wl_get X i 14 om,wl_get X i 6 om,wl_get X i 1 om]
 rw [show i-1-15=i-16 by omega,show i-1-14=i-15 by omega,show i-1-6=i-7 by omega,show i-1-1=i-2 by omega]
theorem o6 (X:LU) (i:Nat):wN X i<4294967296:=by
 by_cases h:i<16
 ·rw [wN_word h];exact word_lt X i
 ·rw [wN_more om];exact uJ _ _
abbrev xX:Type:=Nat × Nat × Nat × Nat × Nat × Nat × Nat × Nat
def kL:List Nat:=[0x428a2f98,0x71374491,0xb5c0fbcf,0xe9b5dba5,0x3956c25b,0x59f111f1,0x923f82a4,0xab1c5ed5,0xd807aa98,0x12835b01,0x243185be,0x550c7dc3,0x72be5d74,0x80deb1fe,0x9bdc06a7,0xc19bf174,0xe49b69c1,0xefbe4786,0x0fc19dc6,0x240ca1cc,0x2de92c6f,0x4a7484aa,0x5cb0a9dc,0x76f988da,0x983e5152,0xa831c66d,0xb00327c8,0xbf597fc7,0xc6e00bf3,0xd5a79147,0x06ca6351,0x14292967,0x27b70a85,0x2e1b2138,0x4d2c6dfc,0x53380d13,0x650a7354,0x766a0abb,0x81c2c92e,0x92722c85,0xa2bfe8a1,0xa81a664b,0xc24b8b70,0xc76c51a3,0xd192e819,0xd6990624,0xf40e3585,0x106aa070,0x19a4c116,0x1e376c08,0x2748774c,0x34b0bcb5,0x391c0cb3,0x4ed8aa4a,0x5b9cca4f,0x682e6ff3,0x748f82ee,0x78a5636f,0x84c87814,0x8cc70208,0x90befffa,0xa4506ceb,0xbef9a3f7,0xc67178f2]
def kN (i:Nat):Nat:=kL.getD i 0
def bs0 (x:Nat):Nat:=(aP x 2^^^aP x 13)^^^aP x 22
def bs1 (x:Nat):Nat:=(aP x 6^^^aP x 11)^^^aP x 25
def chN (e f g:Nat):Nat:=(e&&&f)^^^(kW e&&&g)
def majN (a b c:Nat):Nat:=((a&&&b)^^^(a&&&c))^^^(b&&&c)
def t1N (k w e f g h:Nat):Nat:=bJ (bJ (bJ (bJ h (bs1 e)) (chN e f g)) k) w
def t2N (a b c:Nat):Nat:=bJ (bs0 a) (majN a b c)
def rnd (k w:Nat):xX->xX
 | (a,b,c,d,e,f,g,h)=>(bJ (t1N k w e f g h) (t2N a b c),a,b,c,bJ d (t1N k w e f g h),e,f,g)
def rnds (X:LU) (s:xX):Nat->xX
 | 0=>s
 | i+1=>rnd (kN i) (wN X i) (rnds X s i)
def addS:xX->xX->xX
 | (a,b,c,d,e,f,g,h),(a',b',c',d',e',f',g',h')=>(bJ a a',bJ b b',bJ c c',bJ d d',bJ e e',bJ f f',bJ g g',bJ h h')
def oQ (s:xX) (X:LU):xX:=addS s (rnds X s 64)
def ok8:xX->Prop
 | (a,b,c,d,e,f,g,h)=>a<4294967296/\b<4294967296/\c<4294967296/\d<4294967296/\e<4294967296/\f<4294967296/\g<4294967296/\h<4294967296
theorem rnd_ok {k w:Nat} {s:xX} (h:ok8 s):ok8 (rnd k w s):=by
 obtain ⟨h1,h2,h3,h4,h5,h6,h7,h8⟩:=h
 exact ⟨uJ _ _,h1,h2,h3,uJ _ _,h5,h6,h7⟩
theorem rnds_ok {X:LU} {s:xX} (h:ok8 s):∀ i,ok8 (rnds X s i)
 | 0=>h
 | i+1=>rnd_ok (rnds_ok h i)
theorem addS_ok (s t:xX):ok8 (addS s t):=by
 exact ⟨uJ _ _,uJ _ _,uJ _ _,uJ _ _,uJ _ _,uJ _ _,uJ _ _,uJ _ _⟩
theorem rnds_next {X:LU} {s:xX} {e f h:Nat} (hr:rnds X s i=(a,b,c,d,e,f,g,h)) :
 rnds X s (i+1)=(bJ (t1N (kN i) (wN X i) e f g h) (t2N a b c),a,b,c,bJ d (t1N (kN i) (wN X i) e f g h),e,f,g):=by
 rw [rnds,hr];rfl
def fG (n:Nat):Nat:=(64-(n+9)%64)%64
def be8 (x k:Nat):LU:=(Jd k).map fun i=>ob ((x / 2^(56-8*i)%256:Nat):Int)
def dE (n:Nat):LU:=128::(I4 (fG n) 0++be8 (8*n) 8)
theorem be8_length (x k:Nat):(be8 x k).length=k:=by simp [be8]
theorem be8_succ (x k:Nat):be8 x (k+1)=be8 x k++[ob ((x / 2^(56-8*k)%256:Nat):Int)]:=by simp [be8,List.range_succ]
theorem Gx (n:Nat):(dE n).length=fG n+9:=by simp [dE,be8_length]
theorem aV (n:Nat):fG n<64:=LQ _ dC
def init8:xX:=(0x6a09e667,0xbb67ae85,0x3c6ef372,0xa54ff53a,0x510e527f,0x9b05688c,0x1f83d9ab,0x5be0cd19)
def shaS (m:LU):Nat->xX
 | 0=>init8
 | i+1=>oQ (shaS m i) (nT m (64*i) (64*i+64))
theorem EL (m:LU):∀ i,ok8 (shaS m i)
 | 0=>⟨om,om,om,om,om,om,om,om⟩
 | i+1=>by rw [shaS];exact addS_ok _ _
def tX:xX->Nat->Nat
 | (a,b,c,d,e,f,g,h),j=>([a,b,c,d,e,f,g,h]:List Nat).getD j 0
def digL (s:xX):LU:=(Jd 32).map fun m=>ob ((tX s (m / 4) / 2^(24-m%4*8)%256:Nat):Int)
theorem digL_length (s:xX):(digL s).length=32:=rfl
def msgN (b:LU):LU:=b++dE b.length
def shaL (b:LU):LU:=digL (shaS (msgN b) ((msgN b).length / 64))
def iO (b:LU):Nat:=nB (shaL b)
theorem shaL_length (b:LU):(shaL b).length=32:=rfl
theorem hL_sha (b:LU):hL (iO b)=shaL b:=hL_nB (shaL_length b)
def l9 (t b:LU):Nat:=iO ((shaL t++shaL t)++b)
def gY (k:Mc) (n:Nat) (f:Nat->Nat):Array LW:=((Jd n).map fun m=>JV k ((f m:Nat):Int)).toArray
theorem nH (k:Mc) (n:Nat) (f:Nat->Nat):(gY k n f).size=n:=by simp [gY]
theorem AL {f:Nat->Nat} (h:m<n):(gY k n f)[m]? = some (.int k ((f m:Nat):Int)):=by
 simp [gY,h]
theorem GR {f:Nat->Nat} {v:Nat}:(gY k n f).setIfInBounds i (.int k ((v:Nat):Int))=gY k n (fun m=>if m=i then v else f m):=by
 apply Le
 intro m
 by_cases hm:m<n
 ·rw [AL hm]
  by_cases e:m=i
  ·subst e
   rw [Array.getElem?_setIfInBounds_self_of_lt (by rw [nH];exact hm),if_pos rfl]
  ·rw [Array.getElem?_setIfInBounds_ne om,AL hm,if_neg e]
 ·rw [I5 (by rw [Array.size_setIfInBounds,nH];omega),I5 (by rw [nH];omega)]
theorem rE {f g:Nat->Nat} (h:∀ m,m<n->f m=g m):gY k n f=gY k n g:=by
 unfold gY
 congr 1
 apply J9
 intro m hm
 rw [h m (IU.1 hm)]
theorem rowK_bytes (s:xX):gY .u8 32 (fun m=>tX s (m / 4) / 2^(24-m%4*8)%256)=hB (nB (digL s)):=by
 rw [<- hB_nB (digL_length s)]
 unfold gY digL bs
 rw [Lr]
 congr 1
 apply J9
 intro m _
 show _=bv (ob _)
 rw [bv_ob om]
theorem H5 {X:LU} (h:i<X.length):(bs X).toArray[i]? = some (.int .u8 ((gB X i:Nat):Int)):=by
 rw [List.getElem?_toArray]
 unfold bs gB
 simp [bv,IR h]
theorem sel_get {e f h:Nat} (hj:j<8):(#[JV .u32 ((a:Nat):Int),.int .u32 ((b:Nat):Int),.int .u32 ((c:Nat):Int),.int .u32 ((d:Nat):Int),.int .u32 ((e:Nat):Int),.int .u32 ((f:Nat):Int),.int .u32 ((g:Nat):Int),.int .u32 ((h:Nat):Int)]:Array LW)[j]? = some (.int .u32 ((tX (a,b,c,d,e,f,g,h) j:Nat):Int)):=by
 rcases (by omega:j=0\/j=1\/j=2\/j=3\/j=4\/j=5\/j=6\/j=7) with rfl | rfl | rfl | rfl | rfl | rfl | rfl | rfl<;>rfl
theorem sel8_lt {s:xX} (h:ok8 s) (j:Nat):tX s j<4294967296:=by
 obtain ⟨a,b,c,d,e,f,g,h'⟩:=s
 obtain ⟨h1,h2,h3,h4,h5,h6,h7,h8⟩:=h
 show ([a,b,c,d,e,f,g,h']:List Nat).getD j 0<4294967296
 rcases (by omega:j=0\/j=1\/j=2\/j=3\/j=4\/j=5\/j=6\/j=7\/8<=j) with rfl | rfl | rfl | rfl | rfl | rfl | rfl | rfl | hj<;>first | assumption | skip
 rw [Ji,List.getElem?_eq_none om]
 decide
variable {c:Int}
def FI (c:Int):Prop:=0<=c/\c<=1
theorem sW:FI 0:=by unfold FI;omega
theorem BU:jH 0:=by unfold jH;omega
def fU (x y c:Int):Int:=(x+y+c)%18446744073709551616
def gZ (x y c:Int):Int:=if x+y+c<18446744073709551616 then 0 else 1
theorem pJ (x y c:Int):jH (fU x y c):=by unfold jH fU;omega
theorem uX (x y c:Int):FI (gZ x y c):=by unfold FI gZ;split<;>omega
theorem add_eq {x y:Int} (hx:jH x) (hy:jH y) (hc:FI c):fU x y c+18446744073709551616*gZ x y c=x+y+c:=by
 unfold jH FI fU gZ at *;split<;>omega
def Ad (x y c:Int):Int:=(x-y-c)%18446744073709551616
def oZ (x y c:Int):Int:=if x<y+c then 1 else 0
theorem yG (x y c:Int):jH (Ad x y c):=by unfold jH Ad;omega
theorem uV (x y c:Int):FI (oZ x y c):=by unfold FI oZ;split<;>omega
theorem sub_eq {x y:Int} (hx:jH x) (hy:jH y) (hc:FI c):Ad x y c-18446744073709551616*oZ x y c=x-y-c:=by
 unfold jH FI Ad oZ at *;split<;>omega
def fO (x y:Int):Int:=(x*y)%18446744073709551616
def xQ (x y:Int):Int:=(x*y) / 18446744073709551616
theorem Gp (x y:Int):jH (fO x y):=by unfold jH fO;omega
theorem mul_eq (x y:Int):fO x y+18446744073709551616*xQ x y=x*y:=by unfold fO xQ;omega
theorem add64 (x y c:Int) (hx:jH x) (hy:jH y) (hc:FI c) (w:LX):(callFunc 155 #[.int .u64 x,.int .u64 y,.int .u64 c]).run prog w=.ok (.value (.tuple #[.int .u64 (fU x y c),.int .u64 (gZ x y c)])) w:=by
 unfold jH FI at *
 rw [run_callFunc_extern func155 (by kernel_rfl) (by kernel_rfl) (by kernel_rfl) (e:=add64Entry) (by kernel_rfl),run_add64 x y c om om om om]
 simp only [Result.andThen]
 have e1:(x+y+c) / 18446744073709551616=gZ x y c:=by unfold gZ;split<;>omega
 rw [e1];rfl
theorem sub64 (x y b:Int) (hx:jH x) (hy:jH y) (hb:FI b) (w:LX):(callFunc 167 #[.int .u64 x,.int .u64 y,.int .u64 b]).run prog w=.ok (.value (.tuple #[.int .u64 (Ad x y b),.int .u64 (oZ x y b)])) w:=by
 unfold jH FI at *
 obtain ⟨x,rfl⟩:=Jg hx.1
 obtain ⟨y,rfl⟩:=Jg hy.1
 obtain ⟨b,rfl⟩:=Jg hb.1
 have e1:(((x+18446744073709551616-y-b)%18446744073709551616:Nat):Int)=Ad x y b:=by unfold Ad;omega
 have e2:((if x<y+b then 1 else 0:Nat):Int)=oZ x y b:=by unfold oZ;split<;>split<;>omega
 rw [run_callFunc_extern func167 (by kernel_rfl) (by kernel_rfl) (by kernel_rfl) (e:=sub64Entry) (by kernel_rfl),run_sub64 x y b om,e1,e2]
 rfl
theorem Bh {a b:Int} (h:a=b):Jv (.int .i64 a)=.returned (.int .i64 b):=by rw [h]
theorem Iz {a b:Bool} (h:a=b):Jv (.bool a)=.returned (.bool b):=by rw [h]
theorem ret_Ub {a b:LW} {c d:Bool} (h:a=b) (h':c=d):Jv (.tuple #[a,.bool c])=.returned (.tuple #[b,.bool d]):=by rw [h,h']
theorem ret_U {a b:LW} (h:a=b):Jv a=.returned b:=by rw [h]
theorem bt (h : p := by
    repeat' (first | (with_reducible exact Below.refl _ _) | (with_reducible assumption) | (with_reducible refine below_drewN ?_ _) | (with_reducible refine Below.drew ?_) | (with_reducible refine Below.setCell ?_ ?_ _) | (with_reducible refine Below.alloc ?_ ?_ _) | (with_reducible exact Nat.le_refl _) | omega | (simp; omega) | (simp; done))) : p := h
set_option maxHeartbeats 1000000 in
theorem E8 (A B:Nat) (w:LX) (hA:A<M) (hB:B<M) :
 Calls prog 160 #[U A,U B] w fun e w'=>e=.returned (.int .i64 (pF A B))/\Below w.heap.size w w':=by
 go_enter func160,Tryz.ntmps160
 go_wp2
 refine wp_loop_rounds 5 ?_
 repeat' (first | (rw [rounds_succ];go_wp2) | (go_quiet (fail);go_wp2))
 all_goals (go_ret;have ea:=uM A hA;have eb:=uM B hB;have a0:=dA A 0;have a1:=dA A 1;have a2:=dA A 2;have a3:=dA A 3;have b0:=dA B 0;have b1:=dA B 1;have b2:=dA B 2;have b3:=dA B 3;unfold jH at a0 a1 a2 a3 b0 b1 b2 b3;refine ⟨Bh (cmpN_of ?_ ?_ ?_),?_⟩;all_goals (first | (intro hh;first | rfl | (exfalso;omega)) | (exact bt)))
set_option maxHeartbeats 1000000 in
theorem BI (A B:Nat) (w:LX) (hA:A<M) (hB:B<M) :
 Calls prog 140 #[U A,U B] w fun e w'=>e=.returned (.int .i64 (pF A B))/\Below w.heap.size w w':=by
 go_enter func140,Tryz.ntmps140
 go_wp2
 refine wp_loop_rounds 5 ?_
 repeat' (first | (rw [rounds_succ];go_wp2) | (go_quiet (fail);go_wp2))
 all_goals (go_ret;have ea:=uM A hA;have eb:=uM B hB;have a0:=dA A 0;have a1:=dA A 1;have a2:=dA A 2;have a3:=dA A 3;have b0:=dA B 0;have b1:=dA B 1;have b2:=dA B 2;have b3:=dA B 3;unfold jH at a0 a1 a2 a3 b0 b1 b2 b3;refine ⟨Bh (cmpN_of ?_ ?_ ?_),?_⟩;all_goals (first | (intro hh;first | rfl | (exfalso;omega)) | (exact bt)))
theorem add_words (A B:Nat) (hA:A<M) (hB:B<M) :
 KW #[.int .u64 (fU (wd A 0) (wd B 0) 0),.int .u64 (fU (wd A 1) (wd B 1) (gZ (wd A 0) (wd B 0) 0)),.int .u64 (fU (wd A 2) (wd B 2) (gZ (wd A 1) (wd B 1) (gZ (wd A 0) (wd B 0) 0))),.int .u64 (fU (wd A 3) (wd B 3) (gZ (wd A 2) (wd B 2) (gZ (wd A 1) (wd B 1) (gZ (wd A 0) (wd B 0) 0))))]=U ((A+B)%M) /\
 (((A+B:Nat):Int)=((A+B)%M:Nat)+(M:Int)*gZ (wd A 3) (wd B 3) (gZ (wd A 2) (wd B 2) (gZ (wd A 1) (wd B 1) (gZ (wd A 0) (wd B 0) 0)))):=by
 have ea:=uM A hA
 have eb:=uM B hB
 have p0:=add_eq (dA A 0) (dA B 0) sW
 have q0:=uX (wd A 0) (wd B 0) 0
 have r0:=pJ (wd A 0) (wd B 0) 0
 generalize gZ (wd A 0) (wd B 0) 0=k0 at *
 have p1:=add_eq (dA A 1) (dA B 1) q0
 have q1:=uX (wd A 1) (wd B 1) k0
 have r1:=pJ (wd A 1) (wd B 1) k0
 generalize gZ (wd A 1) (wd B 1) k0=k1 at *
 have p2:=add_eq (dA A 2) (dA B 2) q1
 have q2:=uX (wd A 2) (wd B 2) k1
 have r2:=pJ (wd A 2) (wd B 2) k1
 generalize gZ (wd A 2) (wd B 2) k1=k2 at *
 have p3:=add_eq (dA A 3) (dA B 3) q2
 have q3:=uX (wd A 3) (wd B 3) k2
 have r3:=pJ (wd A 3) (wd B 3) k2
 generalize gZ (wd A 3) (wd B 3) k2=k3 at *
 generalize fU (wd A 0) (wd B 0) 0=s0 at *
 generalize fU (wd A 1) (wd B 1) k0=s1 at *
 generalize fU (wd A 2) (wd B 2) k1=s2 at *
 generalize fU (wd A 3) (wd B 3) k2=s3 at *
 have key:(((A+B)%M:Nat):Int)=s0+18446744073709551616*s1+340282366920938463463374607431768211456*s2+6277101735386680763835789423207666416102355444464034512896*s3/\(((A+B:Nat):Int)=((A+B)%M:Nat)+(M:Int)*k3):=by
  have hs:((A+B:Nat):Int)=s0+18446744073709551616*s1+340282366920938463463374607431768211456*s2+6277101735386680763835789423207666416102355444464034512896*s3+M*k3:=by
   rw [wZ];omega
  unfold jH FI at *
  rw [wZ] at *
  omega
 exact ⟨Cj _ r0 r1 r2 r3 key.1,key.2⟩
theorem bit_ne_zero (h:FI c) [Decidable p] (hp:c=1↔p):(c != 0)=decide p:=by
 unfold FI at h
 by_cases hh:c=1
 ·rw [decide_eq_true (hp.1 hh),hh];rfl
 ·rw [decide_eq_false (fun x=>hh (hp.2 x)),show c=0 by omega];rfl
theorem bit_eq_one (h:FI c) [Decidable p] (hp:c=1↔p):(c==1)=decide p:=by
 unfold FI at h
 by_cases hh:c=1
 ·rw [decide_eq_true (hp.1 hh),hh];rfl
 ·rw [decide_eq_false (fun x=>hh (hp.2 x)),show c=0 by omega];rfl
theorem add_carry (A B:Nat) (hA:A<M) (hB:B<M):gZ (wd A 3) (wd B 3) (gZ (wd A 2) (wd B 2) (gZ (wd A 1) (wd B 1) (gZ (wd A 0) (wd B 0) 0)))=1↔M<=A+B:=by
 have h:=(add_words A B hA hB).2
 have h2:=uX (wd A 3) (wd B 3) (gZ (wd A 2) (wd B 2) (gZ (wd A 1) (wd B 1) (gZ (wd A 0) (wd B 0) 0)))
 generalize gZ (wd A 3) (wd B 3) (gZ (wd A 2) (wd B 2) (gZ (wd A 1) (wd B 1) (gZ (wd A 0) (wd B 0) 0)))=k at *
 unfold FI at h2;rw [wZ] at *
 rcases (by omega:k=0\/k=1) with rfl | rfl<;>omega
set_option maxHeartbeats 1000000 in
theorem radd_any (A B:Nat) (w:LX) (hA:A<M) (hB:B<M) :
 Calls prog 120 #[U A,U B] w fun e w'=>e=.returned (.tuple #[U ((A+B)%M),.bool (decide (M<=A+B))])/\Below w.heap.size w w':=by
 have h55:=add64;have h1:=dA;have h2:=pJ;have h3:=uX;have h4:=sW
 go_enter func120,Tryz.ntmps120
 go_wp2
 refine wp_loop_rounds 5 ?_
 repeat (rw [rounds_succ];go_wp2;try (go_region;go_wp2))
 go_returns
 refine ⟨ret_Ub (add_words A B hA hB).1 (bit_eq_one (uX _ _ _) (add_carry A B hA hB)),?_⟩
 (exact bt)
theorem sub_words (A B:Nat) (hA:A<M) (hB:B<M) :
 KW #[.int .u64 (Ad (wd A 0) (wd B 0) 0),.int .u64 (Ad (wd A 1) (wd B 1) (oZ (wd A 0) (wd B 0) 0)),.int .u64 (Ad (wd A 2) (wd B 2) (oZ (wd A 1) (wd B 1) (oZ (wd A 0) (wd B 0) 0))),.int .u64 (Ad (wd A 3) (wd B 3) (oZ (wd A 2) (wd B 2) (oZ (wd A 1) (wd B 1) (oZ (wd A 0) (wd B 0) 0))))]=U ((A+M-B)%M) /\
 (((A:Int)-B)=((A+M-B)%M:Nat)-(M:Int)*oZ (wd A 3) (wd B 3) (oZ (wd A 2) (wd B 2) (oZ (wd A 1) (wd B 1) (oZ (wd A 0) (wd B 0) 0)))):=by
 have ea:=uM A hA
 have eb:=uM B hB
 have p0:=sub_eq (dA A 0) (dA B 0) sW
 have q0:=uV (wd A 0) (wd B 0) 0
 have r0:=yG (wd A 0) (wd B 0) 0
 generalize oZ (wd A 0) (wd B 0) 0=k0 at *
 have p1:=sub_eq (dA A 1) (dA B 1) q0
 have q1:=uV (wd A 1) (wd B 1) k0
 have r1:=yG (wd A 1) (wd B 1) k0
 generalize oZ (wd A 1) (wd B 1) k0=k1 at *
 have p2:=sub_eq (dA A 2) (dA B 2) q1
 have q2:=uV (wd A 2) (wd B 2) k1
 have r2:=yG (wd A 2) (wd B 2) k1
 generalize oZ (wd A 2) (wd B 2) k1=k2 at *
 have p3:=sub_eq (dA A 3) (dA B 3) q2
 have q3:=uV (wd A 3) (wd B 3) k2
 have r3:=yG (wd A 3) (wd B 3) k2
 generalize oZ (wd A 3) (wd B 3) k2=k3 at *
 generalize Ad (wd A 0) (wd B 0) 0=s0 at *
 generalize Ad (wd A 1) (wd B 1) k0=s1 at *
 generalize Ad (wd A 2) (wd B 2) k1=s2 at *
 generalize Ad (wd A 3) (wd B 3) k2=s3 at *
 have key:(((A+M-B)%M:Nat):Int)=s0+18446744073709551616*s1+340282366920938463463374607431768211456*s2+6277101735386680763835789423207666416102355444464034512896*s3/\(((A:Int)-B)=((A+M-B)%M:Nat)-(M:Int)*k3):=by
  have hs:(A:Int)-B=s0+18446744073709551616*s1+340282366920938463463374607431768211456*s2+6277101735386680763835789423207666416102355444464034512896*s3-M*k3:=by
   rw [wZ];omega
  unfold jH FI at *
  rw [wZ] at *
  omega
 exact ⟨Cj _ r0 r1 r2 r3 key.1,key.2⟩
theorem sub_borrow (A B:Nat) (hA:A<M) (hB:B<M):oZ (wd A 3) (wd B 3) (oZ (wd A 2) (wd B 2) (oZ (wd A 1) (wd B 1) (oZ (wd A 0) (wd B 0) 0)))=1↔A<B:=by
 have h:=(sub_words A B hA hB).2
 have h2:=uV (wd A 3) (wd B 3) (oZ (wd A 2) (wd B 2) (oZ (wd A 1) (wd B 1) (oZ (wd A 0) (wd B 0) 0)))
 generalize oZ (wd A 3) (wd B 3) (oZ (wd A 2) (wd B 2) (oZ (wd A 1) (wd B 1) (oZ (wd A 0) (wd B 0) 0)))=k at *
 unfold FI at h2;rw [wZ] at *
 rcases (by omega:k=0\/k=1) with rfl | rfl<;>omega
set_option maxHeartbeats 1000000 in
theorem sub_any (A B:Nat) (w:LX) (hA:A<M) (hB:B<M) :
 Calls prog 183 #[U A,U B] w fun e w'=>e=.returned (.tuple #[U ((A+M-B)%M),.bool (decide (A<B))])/\Below w.heap.size w w':=by
 have h55:=sub64;have h1:=dA;have h2:=yG;have h3:=uV;have h4:=sW
 go_enter func183,Tryz.ntmps183
 go_wp2
 refine wp_loop_rounds 5 ?_
 repeat (rw [rounds_succ];go_wp2;try (go_region;go_wp2))
 go_returns
 refine ⟨ret_Ub (sub_words A B hA hB).1 (bit_ne_zero (uV _ _ _) (sub_borrow A B hA hB)),?_⟩
 (exact bt)
set_option maxHeartbeats 1000000 in
theorem rsub_any (A B:Nat) (w:LX) (hA:A<M) (hB:B<M) :
 Calls prog 141 #[U A,U B] w fun e w'=>e=.returned (.tuple #[U ((A+M-B)%M),.bool (decide (A<B))])/\Below w.heap.size w w':=by
 have h55:=sub64;have h1:=dA;have h2:=yG;have h3:=uV;have h4:=sW
 go_enter func141,Tryz.ntmps141
 go_wp2
 refine wp_loop_rounds 5 ?_
 repeat (rw [rounds_succ];go_wp2;try (go_region;go_wp2))
 go_returns
 refine ⟨ret_Ub (sub_words A B hA hB).1 (bit_eq_one (uV _ _ _) (sub_borrow A B hA hB)),?_⟩
 (exact bt)
end Go.Proofs.YtegagmoldjiaaaaGreatDoor
