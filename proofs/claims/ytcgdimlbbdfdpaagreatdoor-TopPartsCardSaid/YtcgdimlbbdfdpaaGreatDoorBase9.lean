/-
  What this statement needs, part 9: the texts of it, one behind the other.
-/
import Derived.Test.YtcgdimlbbdfdpaaGreatDoorBase4
import Derived.Test.YtcgdimlbbdfdpaaGreatDoorBase6
import Derived.Test.YtcgdimlbbdfdpaaGreatDoorBase7
import Derived.Test.YtcgdimlbbdfdpaaGreatDoorBase8
set_option maxRecDepth 100000
set_option linter.all false
namespace Go.Proofs.YtcgdimlbbdfdpaaGreatDoor
open Go Go.RowKit _root_.Go.Proofs.Tryz
theorem modM_lt (x:Nat):x%M<M:=Nat.mod_lt _ M_pos
def c8 (f:Nat->Int):Array Value:= #[.int .u64 (f 0),.int .u64 (f 1),.int .u64 (f 2),.int .u64 (f 3),.int .u64 (f 4),.int .u64 (f 5),.int .u64 (f 6),.int .u64 (f 7)]
def vM (f:Nat->Int) (k:Nat) (x:Int):Nat->Int:=fun j=>if j=k then x else f j
theorem lt8 {k:Nat} (h:k<8):k=0\/k=1\/k=2\/k=3\/k=4\/k=5\/k=6\/k=7:=by omega
theorem c8_get (f:Nat->Int) (k:Nat) (h:k<8):(c8 f)[k]? = some (.int .u64 (f k)):=by
 rcases lt8 h with rfl | rfl | rfl | rfl | rfl | rfl | rfl | rfl<;>rfl
theorem c8_set (f:Nat->Int) (k:Nat) (x:Int) (h:k<8):(c8 f).setIfInBounds k (.int .u64 x)=c8 (vM f k x):=by
 rcases lt8 h with rfl | rfl | rfl | rfl | rfl | rfl | rfl | rfl<;>simp [c8,vM]
def S8 (f:Nat->Int):Int:=f 0+18446744073709551616*f 1+340282366920938463463374607431768211456*f 2+6277101735386680763835789423207666416102355444464034512896*f 3+115792089237316195423570985008687907853269984665640564039457584007913129639936*f 4+2135987035920910082395021706169552114602704522356652769947041607822219725780640550022962086936576*f 5+39402006196394479212279040100143613805079739270465446667948293404245721771497210611414266254884915640806627990306816*f 6+726838724295606890549323807888004534353641360687318060281490199180639288113397923326191050713763565560762521606266177933534601628614656*f 7
def pw (k:Nat):Int:=18446744073709551616^k
theorem pw_vals:pw 0=1/\pw 1=18446744073709551616/\pw 2=340282366920938463463374607431768211456/\pw 3=6277101735386680763835789423207666416102355444464034512896/\pw 4=115792089237316195423570985008687907853269984665640564039457584007913129639936/\pw 5=2135987035920910082395021706169552114602704522356652769947041607822219725780640550022962086936576/\pw 6=39402006196394479212279040100143613805079739270465446667948293404245721771497210611414266254884915640806627990306816/\pw 7=726838724295606890549323807888004534353641360687318060281490199180639288113397923326191050713763565560762521606266177933534601628614656:=by
 decide +kernel
def mG (A B i:Nat):Nat->Int
 | 0=>0
 | j+1=>mG A B i j+wd A i*wd B j*pw (i+j)
def mH (A B:Nat):Nat->Int
 | 0=>0
 | i+1=>mH A B i+mG A B i 4
structure MulO (A B i:Nat) (f:Nat->Int):Prop where
 word:∀ k,Word (f k)
 zero:∀ k,i+4<=k->f k=0
 sum:S8 f=mH A B i
structure MulI (A B i j:Nat) (f:Nat->Int) (c:Int):Prop where
 car:Word c
 word:∀ k,Word (f k)
 zero:∀ k,i+4<=k->f k=0
 sum:S8 f+c*pw (i+j)=mH A B i+mG A B i j
theorem mulO_zero (A B:Nat):MulO A B 0 (fun _=>0):=⟨fun _=>word_zero,fun _ _=>rfl,by simp [S8,mH]⟩
theorem mulO_begin {A B i:Nat} {f:Nat->Int} (h:MulO A B i f):MulI A B i 0 f 0:=⟨word_zero,h.word,h.zero,by rw [h.sum];simp [mG]⟩
theorem mulI_end {A B i:Nat} {f:Nat->Int} {c:Int} (hi:i<4) (h:MulI A B i 4 f c):MulO A B (i+1) (vM f (i+4) c):=by
 refine ⟨fun k=>?_,fun k hk=>?_,?_⟩
 ·unfold vM; split
  ·exact h.car
  ·exact h.word k
 ·unfold vM;rw [if_neg om];exact h.zero k om
 ·have hz := h.zero (i + 4) om
  have hs:=h.sum
  show _=mH A B i+mG A B i 4
  rw [<- hs]
  obtain ⟨p0,p1,p2,p3,p4,p5,p6,p7⟩:=pw_vals
  rcases (by omega:i=0\/i=1\/i=2\/i=3) with rfl | rfl | rfl | rfl<;>simp only [S8,vM,Nat.reduceAdd,Nat.reduceEqDiff,if_true,if_false,p4,p5,p6,p7] at hz ⊢ <;> rw [hz]<;>omega
theorem mul_bound {x y:Int} (hx:Word x) (hy:Word y):0<=x*y/\x*y<=340282366920938463426481119284349108225:=by
 unfold Word at *
 refine ⟨Int.mul_nonneg hx.1 hy.1,?_⟩
 have h1:x*y<=18446744073709551615*y:=Int.mul_le_mul_of_nonneg_right om hy.1
 omega
theorem u64_wrap (n:Int):IntKind.u64.wrap n=n%18446744073709551616:=IntKind.wrap_u64 n
theorem mul_step {x y u c:Int} (hx:Word x) (hy:Word y) (hu:Word u) (hc:Word c) :
 dA (dA (dF x y) u 0) c 0+18446744073709551616*(IntKind.u64.wrap (IntKind.u64.wrap (pR x y+bV (dF x y) u 0)+bV (dA (dF x y) u 0) c 0))=x*y+u+c /\
  Word (IntKind.u64.wrap (IntKind.u64.wrap (pR x y+bV (dF x y) u 0)+bV (dA (dF x y) u 0) c 0)):=by
 have hb:=mul_bound hx hy
 have e1:=mul_eq x y
 have w1:=word_mulLo x y
 have e2:=add_eq w1 hu kS
 have w2:=iE (dF x y) u 0
 have b2:=jB (dF x y) u 0
 have e3:=add_eq w2 hc kS
 have w3:=iE (dA (dF x y) u 0) c 0
 have b3:=jB (dA (dF x y) u 0) c 0
 rw [u64_wrap,u64_wrap]
 generalize bV (dA (dF x y) u 0) c 0=q3 at *
 generalize dA (dA (dF x y) u 0) c 0=r3 at *
 generalize bV (dF x y) u 0=q2 at *
 generalize dA (dF x y) u 0=r2 at *
 generalize dF x y=r1 at *
 generalize pR x y=q1 at *
 generalize x*y=p at *
 unfold Word vN at *
 omega
theorem addLo_comm (x y c:Int):dA x y c=dA y x c:=by unfold dA;rw [Int.add_comm x y]
theorem addHi_comm (x y c:Int):bV x y c=bV y x c:=by unfold bV;rw [Int.add_comm x y]
theorem rmul_step {x y u c:Int} (hx:Word x) (hy:Word y) (hu:Word u) (hc:Word c) :
 dA (dA u (dF x y) 0) c 0+18446744073709551616*(IntKind.u64.wrap (IntKind.u64.wrap (pR x y+bV u (dF x y) 0)+bV (dA u (dF x y) 0) c 0))=x*y+u+c /\
  Word (IntKind.u64.wrap (IntKind.u64.wrap (pR x y+bV u (dF x y) 0)+bV (dA u (dF x y) 0) c 0)):=by
 rw [addLo_comm u (dF x y),addHi_comm u (dF x y)]
 exact mul_step hx hy hu hc
theorem mulI_next {A B i j:Nat} {f:Nat->Int} {c w c':Int} (hi:i<4) (hj:j<4) (h:MulI A B i j f c) (hw:Word w) (hc':Word c') (he:w+18446744073709551616*c'=wd A i*wd B j+f (i+j)+c) :
 MulI A B i (j+1) (vM f (i+j) w) c':=by
 refine ⟨hc',fun k=>?_,fun k hk=>?_,?_⟩
 ·unfold vM; split
  ·exact hw
  ·exact h.word k
 ·unfold vM;rw [if_neg om];exact h.zero k hk
 ·have hs := h.sum
  show _=mH A B i+(mG A B i j+wd A i*wd B j*pw (i+j))
  generalize wd A i*wd B j=p at *
  rw [<- Int.add_assoc,<- hs]
  obtain ⟨p0,p1,p2,p3,p4,p5,p6,p7⟩:=pw_vals
  clear hs
  rcases (by omega:i=0\/i=1\/i=2\/i=3) with rfl | rfl | rfl | rfl<;>rcases (by omega:j=0\/j=1\/j=2\/j=3) with rfl | rfl | rfl | rfl <;>
   simp only [S8,vM,Nat.reduceAdd,Nat.reduceEqDiff,if_true,if_false,p0,p1,p2,p3,p4,p5,p6,p7] at he ⊢ <;> omega
theorem mul_four (x b0 b1 b2 b3:Int):x*(b0+18446744073709551616*b1+340282366920938463463374607431768211456*b2+6277101735386680763835789423207666416102355444464034512896*b3)=x*b0+18446744073709551616*(x*b1)+340282366920938463463374607431768211456*(x*b2)+6277101735386680763835789423207666416102355444464034512896*(x*b3):=by
 rw [Int.mul_add,Int.mul_add,Int.mul_add,Int.mul_left_comm x _ b1,Int.mul_left_comm x _ b2,Int.mul_left_comm x _ b3]
theorem mH_four {A B:Nat} (hA:A<M) (hB:B<M):mH A B 4=((A*B:Nat):Int):=by
 have ea:=lX A hA;have eb:=lX B hB
 obtain ⟨p0,p1,p2,p3,p4,p5,p6,p7⟩:=pw_vals
 have e:((A*B:Nat):Int)=(wd A 0+18446744073709551616*wd A 1+340282366920938463463374607431768211456*wd A 2+6277101735386680763835789423207666416102355444464034512896*wd A 3)*(B:Int):=by
  rw [<- ea,Int.natCast_mul]
 rw [e,Int.add_mul,Int.add_mul,Int.add_mul,Int.mul_assoc,Int.mul_assoc,Int.mul_assoc,eb]
 simp only [mul_four]
 simp only [mH,mG,Nat.reduceAdd,Nat.zero_add,Nat.add_zero,p0,p1,p2,p3,p4,p5,p6]
 omega
theorem mul_end {A B:Nat} {f:Nat->Int} (hA:A<M) (hB:B<M) (h:MulO A B 4 f) :
 Ending.returned (.tuple #[.agg #[.int .u64 (f 4),.int .u64 (f 5),.int .u64 (f 6),.int .u64 (f 7)],.agg #[.int .u64 (f 0),.int .u64 (f 1),.int .u64 (f 2),.int .u64 (f 3)]])=.returned (.tuple #[U (A*B / M),U (A*B%M)]):=by
 have hs:=h.sum
 rw [mH_four hA hB] at hs
 have w0:=h.word 0;have w1:=h.word 1;have w2:=h.word 2;have w3:=h.word 3;have w4:=h.word 4;have w5:=h.word 5;have w6:=h.word 6;have w7:=h.word 7
 have l1:=ofW_sum w0 w1 w2 w3
 have l2:=ofW_sum w4 w5 w6 w7
 have t1:=ofW_lt w0 w1 w2 w3
 have key:A*B=ofW (f 4) (f 5) (f 6) (f 7)*M+ofW (f 0) (f 1) (f 2) (f 3):=by
  unfold S8 at hs
  rw [lW] at *
  omega
 have e1:A*B / M=ofW (f 4) (f 5) (f 6) (f 7):=by
  rw [key,Nat.mul_comm,Nat.mul_add_div M_pos,Nat.div_eq_of_lt t1,Nat.add_zero]
 have e2:A*B%M=ofW (f 0) (f 1) (f 2) (f 3):=by
  rw [key,Nat.mul_comm,Nat.mul_add_mod,Nat.mod_eq_of_lt t1]
 rw [e1,e2,sG _ w4 w5 w6 w7 l2,sG _ w0 w1 w2 w3 l1]
theorem fD (x y:Nat) (h:x+y<9223372036854775808):IntKind.i64.wrap ((x:Int)+(y:Int))=((x+y:Nat):Int):=by
 rw [IntWalk.i64_in _ om];omega
def shlW (x:Int) (k:Nat):Int:=IntKind.u64.wrap (x*2^min k 64)
theorem run_shl {P:Program} {t:TypeId} {yk:IntKind} (x:Int) (k:Nat) (w:World):(binOp .shl t (.int .u64 x) (.int yk (k:Int))).run P w=.ok (.int .u64 (shlW x k)) w:=by
 simp only [binOp,Op.shift,if_neg (by omega: ¬ (k:Int)<0),Int.toNat_natCast]
 rfl
theorem run_quo_nat {P:Program} {t:TypeId} (n d q:Nat) (hd:0<d) (hn:n<9223372036854775808) (hq:n / d=q) (w:World):(binOp .quo t (.int .i64 (n:Int)) (.int .i64 (d:Int))).run P w=.ok (.int .i64 (q:Int)) w:=by
 have e:Int.tdiv (n:Int) (d:Int)=(q:Int):=by rw [Int.tdiv_eq_ediv_of_nonneg om,<- hq];simp
 have h1:q<=n:=by rw [<- hq];exact Nat.div_le_self _ _
 simp only [binOp,Op.intDiv,ne_eq,not_true_eq_false,if_false,if_neg (by omega: ¬ (d:Int)=0),e,IntWalk.i64_in (q:Int) om]
 rfl
theorem run_rem_nat {P:Program} {t:TypeId} (n d q:Nat) (hd:0<d) (hq:n%d=q) (w:World):(binOp .rem t (.int .i64 (n:Int)) (.int .i64 (d:Int))).run P w=.ok (.int .i64 (q:Int)) w:=by
 have e:Int.tmod (n:Int) (d:Int)=(q:Int):=by rw [Int.tmod_eq_emod_of_nonneg om,<- hq];simp
 simp only [binOp,Op.intDiv,ne_eq,not_true_eq_false,if_false,if_neg (by omega: ¬ (d:Int)=0),e]
 rfl
theorem wrap_sub_nat (x y:Nat) (h:y<=x) (hx:x<9223372036854775808):IntKind.i64.wrap ((x:Int)-(y:Int))=((x-y:Nat):Int):=by
 rw [IntWalk.i64_in _ om];omega
def shlN (a n:Nat):Nat:=a*2^n%M
def shlZ (a:Nat) (n:Int):Nat:=if n<0 then a else shlN a n.toNat
def shrZ (a:Nat) (n:Int):Nat:=if n<0 then a else a / 2^n.toNat
theorem shlN_big (a:Nat) {n:Nat} (h:256<=n):shlN a n=0:=by
 unfold shlN
 have e:(2:Nat)^n=M*2^(n-256):=by
  rw [show M=2^256 by rw [lW],<- Nat.pow_add,show 256+(n-256)=n by omega]
 rw [e,Nat.mul_left_comm,Nat.mul_mod_right]
theorem shrN_big {a:Nat} (ha:a<M) {n:Nat} (h:256<=n):a / 2^n=0:=by
 apply Nat.div_eq_of_lt
 have:(2:Nat)^256<=2^n:=Nat.pow_le_pow_right dC h
 rw [show M=2^256 by rw [lW]] at ha
 omega
theorem bits_or_comm (x y:Int):bits .or .u64 x y=bits .or .u64 y x:=by
 simp only [bits,BitVec.or_comm]
theorem setlow_row (q g m : Nat) (hg : g < 4) (hm : m < 64) (h : q < 2 ^ (64 * g + m)) : (cU q).setIfInBounds g (.int .u64 (bits .or .u64 (wd q g) (2 ^ m))) = cU (q + 2 ^ (64 * g + m)) := by
 have hl:∀ j,j<g->wd (q+2^(64*g+m)) j=wd q j:=fun j hj=>setbit_lo q _ j om
 have hpos:0<2^(64*g):=Nat.pow_pos dC
 have hlt:q / 2^(64*g)<2^m:=by
  rw [Nat.div_lt_iff_lt_mul hpos,<- Nat.pow_add,Nat.add_comm m];exact h
 have h64:(2:Nat)^m<18446744073709551616:=by
  have:(2:Nat)^m<2^64:=Nat.pow_lt_pow_right dC hm
  omega
 have hW:∀ j,(18446744073709551616:Nat)^j=2^(64*j):=fun j=>by rw [Nat.pow_mul]
 have hz:∀ j,g<j->wd (q+2^(64*g+m)) j=wd q j:=by
  intro j hj
  have hb:(2:Nat)^(64*g+m)+2^(64*g+m)<=2^(64*j):=by
   rw [<- Nat.two_mul,<- Nat.pow_succ']
   exact Nat.pow_le_pow_right dC om
  unfold wd
  rw [hW,Nat.div_eq_of_lt om,Nat.div_eq_of_lt om]
 have hg':bits .or .u64 (wd q g) (2^m)=wd (q+2^(64*g+m)) g:=by
  have e1:wd q g=((q / 2^(64*g):Nat):Int):=by
   unfold wd;rw [hW,Nat.mod_eq_of_lt om]
  have e2:wd (q+2^(64*g+m)) g=((q / 2^(64*g)+2^m:Nat):Int):=by
   unfold wd
   rw [hW,Nat.pow_add,Nat.add_mul_div_left _ _ hpos,Nat.mod_eq_of_lt]
   have:(2:Nat)^m+2^m<=2^64:=by
    rw [<- Nat.two_mul,<- Nat.pow_succ'];exact Nat.pow_le_pow_right dC om
   omega
  rw [e1,e2,bits_or_comm]
  clear e1 e2 hl hz
  generalize q / 2^(64*g)=d at *
  have ec:((2:Int)^m)=((2^m:Nat):Int):=by simp
  have h1:=u64_or_add 1 (d:Int) m om om (by rw [ec];omega) (by
   have:(2:Nat)^m+2^m<=2^64:=by
    rw [<- Nat.two_mul,<- Nat.pow_succ'];exact Nat.pow_le_pow_right dC om
   rw [ec];omega)
  rw [Int.one_mul] at h1
  rw [h1,ec];omega
 rw [hg']
 generalize q+2^(64*g+m)=q' at *
 rcases (by omega:g=0\/g=1\/g=2\/g=3) with rfl | rfl | rfl | rfl
 ·show #[_,_,_,_]=_;rw [cU,hz 1 om,hz 2 om,hz 3 om]
 ·show #[_,_,_,_]=_;rw [cU,hl 0 om,hz 2 om,hz 3 om]
 ·show #[_,_,_,_]=_;rw [cU,hl 0 om,hl 1 om,hz 3 om]
 ·show #[_,_,_,_]=_;rw [cU,hl 0 om,hl 1 om,hl 2 om]
theorem low_next (x i:Nat):x%2^(i+1)=x%2^i+(if x / 2^i%2=1 then 2^i else 0):=by
 rw [Nat.mod_pow_succ]
 rcases (by omega:x / 2^i%2=0\/x / 2^i%2=1) with h | h<;>simp [h]
theorem shr_bit (a n i:Nat):a / 2^(i+n)%2=a / 2^n / 2^i%2:=by rw [Nat.div_div_eq_div_mul,<- Nat.pow_add,Nat.add_comm n i]
theorem shr_all {a n i:Nat} (ha:a<M) (h:256<=i+n):a / 2^n%2^i=a / 2^n:=by
 apply Nat.mod_eq_of_lt
 rw [Nat.div_lt_iff_lt_mul (Nat.pow_pos dC),<- Nat.pow_add]
 have:(2:Nat)^256<=2^(i+n):=Nat.pow_le_pow_right dC h
 rw [show M=2^256 by rw [lW]] at ha
 omega
theorem shl_next (a k:Nat):(a*2^k%M+a*2^k%M)%M=a*2^(k+1)%M:=by
 rw [<- Nat.add_mod,Nat.pow_succ,<- Nat.mul_assoc,Nat.mul_two]
theorem rshl_big (a:Nat) (n:Int) (hn:256<=n) (w0:World):Calls prog 210 #[U a,vi n] w0 (jR (U 0) w0):=by
 refine Calls.cW 19 (fun _=>True) func210 rfl rfl rfl jT ?_
 have hk1:decide (256<=n)=true:=decide_eq_true hn
 refine sS f210 2 [1,2,4] [] (fun r=>[pt (nb r 0),pt (nb r 1)]) (fun r=>[(0,(nw r 0 (cL (cU a) 31))),(1,(nw r 1 (cL (cU 0) 31)))]) (jX 2) (fun r1=>aU (pO f210 2 [1,2,4,6] [] [vi n,vT] [] (jY 1<|kE vT (jP hk1)<|cN) (oY (pO f210 2 [1,2,4] [] [U 0,undef] [(1,(oK 1 (nb r1 1) (cL (cU 0) 31)))] (jE [[],[1]]) (gQ (mt_then_r ?_))))))
 exact mR (v:=(U 0)) (ps:=[1,1,1,1]) (fun _ hS=>⟨rfl,hS.bel⟩)
theorem rshl_neg (a:Nat) (n:Int) (_hn:n<=0) (w0:World):Calls prog 210 #[U a,vi n] w0 (jR (U a) w0):=by
 refine Calls.cW 19 (fun _=>True) func210 rfl rfl rfl jT ?_
 have hk0:decide (256<=n)=false:=decide_eq_false om
 have hk1:decide (0<n)=false:=decide_eq_false om
 refine sS f210 2 [1,2,4] [] (fun r=>[pt (nb r 0),pt (nb r 1)]) (fun r=>[(0,(nw r 0 (cL (cU a) 31))),(1,(nw r 1 (cL (cU 0) 31)))]) (jX 2) (fun r1=>aU (pO f210 2 [1,2,4,6] [] [vi n,vF] [] (jY 1<|kE vF (jP hk0)<|cN) (oN (dM (aI (aU (aY (ok_rounds 1 (okr_succ (aU (pO f210 2 [1,2,4,8,9] [] [vi n,vF] [] (jY 1<|kE vF (jP hk1)<|cN) (oN (eF (aO (aO (bU (aI (pO f210 2 [4] [0,1] [U a,undef] [(1,(oK 1 (nb r1 1) (cL (cU a) 31)))] (jE [[0],[1]]) (gQ ?_)))))))))))))))))))
 exact mR (v:=(U a)) (fun _ hS=>⟨rfl,hS.bel⟩)
theorem rshl_mid (a:Nat) (m:Nat) (ha:a<M) (hm:m<256) (w0:World):Calls prog 210 #[U a,vn m] w0 (jR (U (shlN a m)) w0):=by
 refine Calls.cW 19 (fun _=>True) func210 rfl rfl rfl jT ?_
 have hk0:decide (256<=(m:Int))=false:=decide_eq_false om
 refine sS f210 2 [1,2,4] [] (fun r=>[pt (nb r 0),pt (nb r 1)]) (fun r=>[(0,(nw r 0 (cL (cU a) 31))),(1,(nw r 1 (cL (cU 0) 31)))]) (jX 2) (fun r1=>aU (pO f210 2 [1,2,4,6] [] [vn m,vF] [] (jY 1<|kE vF (jP hk0)<|cN) (oN (dM (aI (aU (aY ?_)))))))
 refine oL (σ:=Nat × Nat) (fun ⟨k,_⟩=>[(1,(vn k)),(2,(pt (nb r1 0))),(4,(pt (nb r1 1)))]) (fun ⟨_,b⟩=>[(nb r1 0,(cL (cU b) 31)),(nb r1 1,(cL (cU 0) 31))]) (fun ⟨k,_⟩=>k)
  (fun ⟨k,b⟩=>(k<=m/\m<256)/\(b=a*2^(m-k)%M)) (m,a) (⟨⟨Nat.le_refl _,hm⟩,by rw [Nat.sub_self,Nat.pow_zero,Nat.mul_one,Nat.mod_eq_of_lt ha]⟩) [] ?_
 rintro ⟨k,b⟩ ⟨hk,h⟩
 have hbM:b<M:=by rw [h];exact modM_lt _
 refine aU (jJ f210 2 [1,2,4,9] [vn k,.bool (decide (0<(k:Int)))] (oC (decide (0<(k:Int))) (fun h1=>?_) (fun h1=>?_)))
 ·rw [h1]
  have:=yT h1
  refine dM (aI (aU (aY (vY f210 7 [1,2,4] [] (let qa:Value:=.bool (decide (M<=b+b));[U b,U b,.tuple #[U ((b+b)%M),qa],.tuple #[U ((b+b)%M),qa],U ((b+b)%M),qa,undef]) [(6,(oK 0 (nb r1 0) (cL (cU ((b+b)%M)) 31)))] (cR [[0],[0]]<|cC (fun _ w=>radd_any b b w hbM hbM)<|jE [[],[],[],[0]]) (bK (aI (vY f210 3 [1,2,4] [] [vn k,vn (k-1),vn (k-1)] [] (jY 1<|jWc ((k:Int)-1) (k-1) (wrap_sub_nat k 1 om om)<|jX 1) (?_))))))))
  exact mN (k-1,(b+b)%M) (by show k-1<k;omega) (⟨⟨by omega,hk.2⟩,by rw [h,shl_next];congr 3;omega⟩) []
 rw [h1]
 refine eF (aO (aO (bU (aI (pO f210 2 [4] [0,1] [U b,undef] [(1,(oK 1 (nb r1 1) (cL (cU b) 31)))] (jE [[0],[1]]) (gQ ?_))))))
 exact mR (v:=(U b)) (fun _ hS=>⟨congrArg (fun x=>Ending.returned (U x)) (by rw [h,show k=0 by have:=yF h1;omega];rfl),hS.bel⟩)
theorem rshl_any (a:Nat) (n:Int) (w0:World) (ha:a<M):Calls prog 210 #[U a,.int .i64 n] w0 (jR (U (shlZ a n)) w0):=by
 unfold shlZ
 by_cases h0:n<0
 ·rw [if_pos h0];exact rshl_neg a n om w0
 ·rw [if_neg h0]
  by_cases h1:256<=n
  ·rw [shlN_big a om];exact rshl_big a n h1 w0
  ·obtain ⟨k, rfl⟩ := Int.eq_ofNat_of_zero_le (by omega : 0 <= n)
   rw [Int.toNat_natCast]
   exact rshl_mid a k ha om w0
theorem rshr_neg (a:Nat) (n:Int) (hn:n<=0) (w0:World):Calls prog 95 #[U a,vi n] w0 (jR (U a) w0):=by
 refine Calls.cW 34 (fun _=>True) func95 rfl rfl rfl jT ?_
 have hk0:decide (n<=0)=true:=decide_eq_true hn
 refine sS f95 2 [1,2,4] [] (fun r=>[pt (nb r 0),pt (nb r 1)]) (fun r=>[(0,(nw r 0 (cL (cU a) 31))),(1,(nw r 1 (cL (cU 0) 31)))]) (jX 2) (fun r1=>aU (pO f95 2 [1,2,4,8] [] [vi n,vT] [] (jY 1<|kE vT (jP hk0)<|cN) (oY (pO f95 2 [1,2,4] [] [U a,undef] [(1,(oK 1 (nb r1 1) (cL (cU a) 31)))] (jE [[0],[1]]) (gQ (mt_then_r ?_))))))
 exact mR (v:=(U a)) (ps:=[1,1,1,1]) (fun _ hS=>⟨rfl,hS.bel⟩)
theorem rshr_big (a:Nat) (n:Int) (hn:256<=n) (w0:World):Calls prog 95 #[U a,vi n] w0 (jR (U 0) w0):=by
 refine Calls.cW 34 (fun _=>True) func95 rfl rfl rfl jT ?_
 have hk0:decide (n<=0)=false:=decide_eq_false om
 have hk1:decide (256<=n)=true:=decide_eq_true hn
 refine sS f95 2 [1,2,4] [] (fun r=>[pt (nb r 0),pt (nb r 1)]) (fun r=>[(0,(nw r 0 (cL (cU a) 31))),(1,(nw r 1 (cL (cU 0) 31)))]) (jX 2) (fun r1=>aU (pO f95 2 [1,2,4,8] [] [vi n,vF] [] (jY 1<|kE vF (jP hk0)<|cN) (oN (dM (aI (aU (pO f95 2 [1,2,4,11] [] [vi n,vT] [] (jY 1<|kE vT (jP hk1)<|cN) (oY (pO f95 2 [1,2,4] [] [U 0,undef] [(1,(oK 1 (nb r1 1) (cL (cU 0) 31)))] (jE [[],[1]]) (gQ (mt_then_r ?_)))))))))))
 exact mR (v:=(U 0)) (ps:=[1,1,1,1]) (fun _ hS=>⟨rfl,hS.bel⟩)
theorem run_shl1 {P:Program} {t:TypeId} (k:Nat) (h:k<64) (w:World):(binOp .shl t (.int .u64 1) (.int .i64 (k:Int))).run P w=.ok (.int .u64 (2^k)) w:=by
 rw [run_shl]
 unfold shlW
 rw [Nat.min_eq_left om,Int.one_mul,vZ k h]
theorem rshr_mid (a:Nat) (m:Nat) (ha:a<M) (_h0:0<m) (_hm:m<256) (w0:World):Calls prog 95 #[U a,vn m] w0 (jR (U (a / 2^m)) w0):=by
 refine Calls.cW 34 (fun _=>True) func95 rfl rfl rfl jT ?_
 have hk0:decide ((m:Int)<=0)=false:=decide_eq_false om
 have hk1:decide (256<=(m:Int))=false:=decide_eq_false om
 refine sS f95 2 [1,2,4] [] (fun r=>[pt (nb r 0),pt (nb r 1)]) (fun r=>[(0,(nw r 0 (cL (cU a) 31))),(1,(nw r 1 (cL (cU 0) 31)))]) (jX 2) (fun r1=>aU (pO f95 2 [1,2,4,8] [] [vn m,vF] [] (jY 1<|kE vF (jP hk0)<|cN) (oN (dM (aI (aU (pO f95 2 [1,2,4,11] [] [vn m,vF] [] (jY 1<|kE vF (jP hk1)<|cN) (oN (dM (aI (sS f95 1 [1,2,4,5] [] (fun r=>[pt (nb r 0)]) (fun r=>[(0,(nw r 0 (cL (cU 0) 31)))]) (jX 1) (fun r4=>aU (jJ f95 1 [1,2,4,5,6] [vi 0] (aY ?_))))))))))))))
 refine oL (σ:=Nat × Nat) (fun ⟨i,_⟩=>[(1,(vn m)),(2,(pt (nb r1 0))),(4,(pt (nb r1 1))),(5,(pt (nb r4 0))),(6,(vn i))]) (fun ⟨_,b⟩=>[(nb r1 0,(cL (cU a) 31)),(nb r1 1,(cL (cU 0) 31)),(nb r4 0,(cL (cU b) 31))]) (fun ⟨i,_⟩=>256-i)
  (fun ⟨i,b⟩=>(i+m<=256)/\(b=a / 2^m%2^i)) (0,0) (⟨by omega,by simp [Nat.mod_one]⟩) [] ?_
 rintro ⟨i,b⟩ ⟨hi,t⟩
 refine aU (pO f95 4 [1,2,4,5,6,16] [] [vn i,vn m,vn (i+m),.bool (decide (((i+m:Nat):Int)<256))] [] (jY 2<|pM (fD i m om)<|jX 1) (oC (decide (((i+m:Nat):Int)<256)) (fun t1=>?_) (fun t1=>?_)))
 ·rw [t1]
  have:=yT t1
  refine dM (aI (aU (aY (pO f95 5 [1,2,4,5,6,23] [] [U a,vn i,vn m,vn (i+m),.bool (vH a (i+m))] [] (cR [[0],[],[]]<|pM (fD i m om)<|cC (fun _ w=>tY a (i+m) w om)<|cN) (oC (vH a (i+m)) (fun t2=>?_) (fun t2=>?_))))))
  ·rw [t2]
   refine rDc f95 [0,1,3,7,0,16,48,127,255,511] 10 [1,2,4,5,6] [] [vn i,vn (i / 64),jp (nb r4 0) (i / 64),.int .u64 (wd b (i / 64)),vn i,vn (i%64),.int .u64 ((2:Int)^(i%64)),.int .u64 (bits .or .u64 (wd b (i / 64)) ((2:Int)^(i%64))),jp (nb r4 0) (i / 64),undef] [(9,(oK 2 (nb r4 0) (cL (cU (b+2^(64*(i / 64)+i%64))) 31)))] (jY 1<|cB (a:=fun r=>(vn i)) (b:=fun r=>(vi 64)) (v:=fun r=>(vn (i / 64))) .quo 3 (fun _ w=>run_quo_nat i 64 (i / 64) dC om rfl w)<|oW (Instr.indexAt 31 (pt (nb r4 0)) (vn (i / 64))) (jp (nb r4 0) (i / 64)) (aC (n:=((i / 64:Nat):Int)) (i:=i / 64) underlying31 sizeOf29 (⟨rfl,by omega⟩))<|lG 2 29 (nb r4 0) (i / 64) (cU b) 31 (.int .u64 (wd b (i / 64))) isAgg29 (oJ b (i / 64) om)<|jY 1<|cB (a:=fun r=>(vn i)) (b:=fun r=>(vi 64)) (v:=fun r=>(vn (i%64))) .rem 3 (fun _ w=>run_rem_nat i 64 (i%64) dC rfl w)<|cB (a:=fun r=>(.int .u64 1)) (b:=fun r=>(vn (i%64))) (v:=fun r=>(.int .u64 ((2:Int)^(i%64)))) .shl 29 (fun _ w=>run_shl1 (i%64) om w)<|jY 1<|oW (Instr.indexAt 31 (pt (nb r4 0)) (vn (i / 64))) (jp (nb r4 0) (i / 64)) (aC (n:=((i / 64:Nat):Int)) (i:=i / 64) underlying31 sizeOf29 (⟨rfl,by omega⟩))<|oStc 2 29 (nb r4 0) (i / 64) (cU b) (cU (b+2^(64*(i / 64)+i%64))) 31 (.int .u64 (bits .or .u64 (wd b (i / 64)) ((2:Int)^(i%64)))) sizeOf29 (show _<4 from by omega) (setlow_row b (i / 64) (i%64) om om (by rw [t,show 64*(i / 64)+i%64=i by omega];exact Nat.mod_lt _ (Nat.pow_pos dC)))<|cN) (bK (aI (vY f95 3 [1,2,4,5,6] [] [vn i,vn (i+1),vn (i+1)] [] (jY 1<|pM (fD i 1 om)<|jX 1) (?_))))
   exact mN (i+1,b+2^(64*(i / 64)+i%64)) (by show 256-(i+1)<256-i;omega) (⟨by omega,by rw [low_next,t];have h2:=t2;unfold vH at h2;rw [shr_bit] at h2;rw [if_pos (yT h2),show 64*(i / 64)+i%64=i by omega]⟩) []
  rw [t2]
  refine dM (bK (aI (vY f95 3 [1,2,4,5,6] [] [vn i,vn (i+1),vn (i+1)] [] (jY 1<|pM (fD i 1 om)<|jX 1) (?_))))
  exact mN (i+1,b) (by show 256-(i+1)<256-i;omega) (⟨by omega,by rw [low_next,t];have h2:=t2;unfold vH at h2;rw [shr_bit] at h2;rw [if_neg (yF h2),Nat.add_zero]⟩) []
 rw [t1]
 refine eF (aO (aO (bU (aI (pO f95 2 [4] [0,1,0] [U b,undef] [(1,(oK 1 (nb r1 1) (cL (cU b) 31)))] (jE [[2],[1]]) (gQ ?_))))))
 exact mR (v:=(U b)) (fun _ hS=>⟨congrArg (fun x=>Ending.returned (U x)) (by rw [t];exact shr_all ha (oA (yF t1))),hS.bel⟩)
theorem yR (a:Nat) (n:Int) (w0:World) (ha:a<M):Calls prog 95 #[U a,.int .i64 n] w0 (jR (U (shrZ a n)) w0):=by
 unfold shrZ
 by_cases h0:n<0
 ·rw [if_pos h0];exact rshr_neg a n om w0
 ·rw [if_neg h0]
  by_cases h1:256<=n
  ·rw [shrN_big ha om];exact rshr_big a n h1 w0
  ·obtain ⟨k, rfl⟩ := Int.eq_ofNat_of_zero_le (by omega : 0 <= n)
   rw [Int.toNat_natCast]
   by_cases hk:k=0
   ·subst hk;rw [Nat.pow_zero,Nat.div_one];exact rshr_neg a _ om w0
   ·exact rshr_mid a k ha om om w0
theorem mul64_any (x y:Int) (hx:Word x) (hy:Word y) (w:World):Calls prog 184 #[.int .u64 x,.int .u64 y] w fun ε w'=>ε=.returned (.tuple #[.int .u64 (pR x y),.int .u64 (dF x y)])/\Below w.heap.size w w':=by
 obtain ⟨x,rfl⟩:=Int.eq_ofNat_of_zero_le hx.1
 obtain ⟨y,rfl⟩:=Int.eq_ofNat_of_zero_le hy.1
 refine (mul64_nat x y (oA hx.2) (oA hy.2) w).mono ?_
 rintro e w' ⟨rfl,rfl⟩
 refine ⟨?_,Below.refl _ _⟩
 unfold pR dF
 rw [Int.natCast_ediv,Int.natCast_emod,Int.natCast_mul];rfl
theorem rmul_w (a:Nat) (b:Nat) (ha:a<M) (h:b<M) (w0:World):Calls prog 205 #[U a,U b] w0 (jR (.tuple #[U (a*b / M),U (a*b%M)]) w0):=by
 refine Calls.cW 71 (fun _=>True) func205 rfl rfl rfl jT (sS f205 4 [2,3,4,5] [] (fun r=>[pt (nb r 0),pt (nb r 1),pt (nb r 2),pt (nb r 3)]) (fun r=>[(0,(nw r 0 (cL (cU a) 31))),(1,(nw r 1 (cL (cU b) 31))),(2,(nw r 2 (cL (cU 0) 31))),(3,(nw r 3 (cL (cU 0) 31)))]) (jX 4) (fun r1=>sS f205 1 [2,3,4,5,6] [] (fun r=>[pt (nb r 0)]) (fun r=>[(0,(nw r 0 (cL #[.int .u64 0,.int .u64 0,.int .u64 0,.int .u64 0,.int .u64 0,.int .u64 0,.int .u64 0,.int .u64 0] 288)))]) (jX 1) (fun r2=>aU (jJ f205 1 [2,3,4,5,6,15] [vi 0] (aY ?_)))))
 refine oL (σ:=Nat × (Nat->Int)) (fun ⟨i,_⟩=>[(2,(pt (nb r1 0))),(3,(pt (nb r1 1))),(4,(pt (nb r1 2))),(5,(pt (nb r1 3))),(6,(pt (nb r2 0))),(15,(vn i))]) (fun ⟨_,f⟩=>[(nb r1 0,(cL (cU a) 31)),(nb r1 1,(cL (cU b) 31)),(nb r1 2,(cL (cU 0) 31)),(nb r1 3,(cL (cU 0) 31)),(nb r2 0,(cL (c8 f) 288))]) (fun ⟨i,_⟩=>4-i)
  (fun ⟨i,f⟩=>(i<=4)/\(MulO a b i f)) (0,(fun _=>0)) (⟨by omega,mulO_zero a b⟩) [] ?_
 rintro ⟨i,f⟩ ⟨hi,hO⟩
 refine jJ f205 1 [2,3,4,5,6,15,16] [.bool (decide ((i:Int)<4))] (aU (oC (decide ((i:Int)<4)) (fun h1=>?_) (fun h1=>?_)))
 ·rw [h1]
  have:=yT h1
  refine dM (aI (aU (aY (jJ f205 2 [2,3,4,5,6,7,15] [vn i,vn i] (jJ f205 1 [2,3,4,5,6,7,8,15] [.int .u64 0] (aU (jJ f205 1 [2,3,4,5,6,7,8,15,18] [vi 0] (aY ?_))))))))
  refine oL (σ:=Nat × (Nat->Int) × Int) (fun ⟨j,_,c⟩=>[(2,(pt (nb r1 0))),(3,(pt (nb r1 1))),(4,(pt (nb r1 2))),(5,(pt (nb r1 3))),(6,(pt (nb r2 0))),(7,(vn i)),(8,(.int .u64 c)),(15,(vn i)),(18,(vn j))]) (fun ⟨_,u,_⟩=>[(nb r1 0,(cL (cU a) 31)),(nb r1 1,(cL (cU b) 31)),(nb r1 2,(cL (cU 0) 31)),(nb r1 3,(cL (cU 0) 31)),(nb r2 0,(cL (c8 u) 288))]) (fun ⟨j,_,_⟩=>4-j)
   (fun ⟨j,u,c⟩=>(j<=4)/\(MulI a b i j u c)) (0,f,0) (⟨by omega,mulO_begin hO⟩) [] ?_
  rintro ⟨j,u,c⟩ ⟨hj,hM⟩
  refine jJ f205 1 [2,3,4,5,6,7,8,15,18,19] [.bool (decide ((j:Int)<4))] (aU (oC (decide ((j:Int)<4)) (fun h2=>?_) (fun h2=>?_)))
  ·rw [h2]
   have:=yT h2
   refine dM (aI (aU (aY (jJ f205 2 [2,3,4,5,6,7,8,9,15,18] [vn j,vn j] (sDc f205 [0,1,3,0,8,24,63,127,255,255,511,2047] 12 [2,3,4,5,6,7,8,9,10,11,15,18] [] (let qa:Value:=.int .u64 (pR (wd a i) (wd b j));let qb:Value:=.int .u64 (dF (wd a i) (wd b j));[vn i,jp (nb r1 0) i,.int .u64 (wd a i),vn j,jp (nb r1 1) j,.int .u64 (wd b j),.tuple #[qa,qb],.tuple #[qa,qb],qa,qb,qa,qb]) [] (jY 1<|oW (Instr.indexAt 31 (pt (nb r1 0)) (vn i)) (jp (nb r1 0) i) (aC (n:=(i:Int)) (i:=i) underlying31 sizeOf29 (⟨rfl,by omega⟩))<|lG 0 29 (nb r1 0) i (cU a) 31 (.int .u64 (wd a i)) isAgg29 (oJ a i om)<|jY 1<|oW (Instr.indexAt 31 (pt (nb r1 1)) (vn j)) (jp (nb r1 1) j) (aC (n:=(j:Int)) (i:=j) underlying31 sizeOf29 (⟨rfl,by omega⟩))<|lG 1 29 (nb r1 1) j (cU b) 31 (.int .u64 (wd b j)) isAgg29 (oJ b j om)<|cCc (mul64_any (wd a i) (wd b j) (aZ a i) (aZ b j))<|jX 5) (pO f205 12 [2,3,4,5,6,7,8,9,10,12,13,15,18] [] (let qa:Value:=.int .u64 (dA (u (i+j)) (dF (wd a i) (wd b j)) 0);let qb:Value:=.int .u64 (bV (u (i+j)) (dF (wd a i) (wd b j)) 0);[vn i,vn j,vn (i+j),jp (nb r2 0) (i+j),.int .u64 (u (i+j)),.int .u64 (dF (wd a i) (wd b j)),.tuple #[qa,qb],.tuple #[qa,qb],qa,qb,qa,qb]) [] (jY 2<|pM (fD i j om)<|oW (Instr.indexAt 288 (pt (nb r2 0)) (vn (i+j))) (jp (nb r2 0) (i+j)) (aC (n:=((i+j:Nat):Int)) (i:=i+j) underlying288 sizeOf29 (⟨rfl,by omega⟩))<|lG 4 29 (nb r2 0) (i+j) (c8 u) 288 (.int .u64 (u (i+j))) isAgg29 (c8_get u (i+j) om)<|jY 1<|cX (o_sem _ (fun _=>callFunc 162 #[.int .u64 (u (i+j)),.int .u64 (dF (wd a i) (wd b j)),.int .u64 0]) (fun _=>(.tuple #[.int .u64 (dA (u (i+j)) (dF (wd a i) (wd b j)) 0),.int .u64 (bV (u (i+j)) (dF (wd a i) (wd b j)) 0)])) (fun _=>kr) (fun _=>kr) (fun _ w=>(add64 (u (i+j)) (dF (wd a i) (wd b j)) 0 (hM.word _) (word_mulLo _ _) kS) w))<|jX 5) (pO f205 8 [2,3,4,5,6,7,8,9,10,12,13,14,15,18] [] (let qa:=dA (u (i+j)) (dF (wd a i) (wd b j)) 0;let qb:Value:=.int .u64 (dA qa c 0);let qc:Value:=.int .u64 (bV qa c 0);[.int .u64 qa,.int .u64 c,.tuple #[qb,qc],.tuple #[qb,qc],qb,qc,qb,qc]) [] (jY 2<|cX (o_sem _ (fun _=>callFunc 162 #[.int .u64 (dA (u (i+j)) (dF (wd a i) (wd b j)) 0),.int .u64 c,.int .u64 0]) (fun _=>(.tuple #[.int .u64 (dA (dA (u (i+j)) (dF (wd a i) (wd b j)) 0) c 0),.int .u64 (bV (dA (u (i+j)) (dF (wd a i) (wd b j)) 0) c 0)])) (fun _=>kr) (fun _=>kr) (fun _ w=>(add64 (dA (u (i+j)) (dF (wd a i) (wd b j)) 0) c 0 (iE _ _ _) hM.car kS) w))<|jX 5) (vY f205 12 [2,3,4,5,6,7,8,15,18] [] (let qa:=IntKind.u64.wrap ((pR (wd a i) (wd b j))+(bV (u (i+j)) (dF (wd a i) (wd b j)) 0));let qb:=dA (u (i+j)) (dF (wd a i) (wd b j)) 0;let qc:Value:=.int .u64 (IntKind.u64.wrap (qa+(bV qb c 0)));[vn i,vn j,vn (i+j),.int .u64 (dA qb c 0),.int .u64 (pR (wd a i) (wd b j)),.int .u64 (bV (u (i+j)) (dF (wd a i) (wd b j)) 0),.int .u64 qa,.int .u64 (bV qb c 0),qc,jp (nb r2 0) (i+j),undef,qc]) [(10,(oK 4 (nb r2 0) (cL (c8 (vM u (i+j) (dA (dA (u (i+j)) (dF (wd a i) (wd b j)) 0) c 0))) 288)))] (jY 2<|pM (fD i j om)<|jY 6<|oW (Instr.indexAt 288 (pt (nb r2 0)) (vn (i+j))) (jp (nb r2 0) (i+j)) (aC (n:=((i+j:Nat):Int)) (i:=i+j) underlying288 sizeOf29 (⟨rfl,by omega⟩))<|oStc 4 29 (nb r2 0) (i+j) (c8 u) (c8 (vM u (i+j) (dA (dA (u (i+j)) (dF (wd a i) (wd b j)) 0) c 0))) 288 (.int .u64 (dA (dA (u (i+j)) (dF (wd a i) (wd b j)) 0) c 0)) sizeOf29 (show _<8 from om) (c8_set u (i+j) (dA (dA (u (i+j)) (dF (wd a i) (wd b j)) 0) c 0) om)<|jX 1) (bK (aI (vY f205 2 [2,3,4,5,6,7,8,15,18] [] [vn (j+1),vn (j+1)] [] (pM (fD j 1 om)<|jX 1) (?_))))))))))))
   exact mN (j+1,vM u (i+j) (dA (dA (u (i+j)) (dF (wd a i) (wd b j)) 0) c 0),IntKind.u64.wrap ((IntKind.u64.wrap ((pR (wd a i) (wd b j))+(bV (u (i+j)) (dF (wd a i) (wd b j)) 0)))+(bV (dA (u (i+j)) (dF (wd a i) (wd b j)) 0) c 0))) (by show 4-(j+1)<4-j;omega) (⟨by omega,mulI_next om om hM (iE _ _ _) (rmul_step (aZ a i) (aZ b j) (hM.word _) hM.car).2 (rmul_step (aZ a i) (aZ b j) (hM.word _) hM.car).1⟩) []
  rw [h2]
  refine eF (aO (aO (bU (aI (vY f205 5 [2,3,4,5,6,15] [] [vn i,vn (i+4),.int .u64 c,jp (nb r2 0) (i+4),undef] [(4,(oK 4 (nb r2 0) (cL (c8 (vM u (i+4) c)) 288)))] (jY 1<|pM (fD i 4 om)<|jY 1<|oW (Instr.indexAt 288 (pt (nb r2 0)) (vn (i+4))) (jp (nb r2 0) (i+4)) (aC (n:=((i+4:Nat):Int)) (i:=i+4) underlying288 sizeOf29 (⟨rfl,by omega⟩))<|oStc 4 29 (nb r2 0) (i+4) (c8 u) (c8 (vM u (i+4) c)) 288 (.int .u64 c) sizeOf29 (show _<8 from om) (c8_set u (i+4) c om)<|cN) (bK (aI (vY f205 2 [2,3,4,5,6,15] [] [vn (i+1),vn (i+1)] [] (pM (fD i 1 om)<|jX 1) (?_)))))))))
  exact mN (i+1,vM u (i+4) c) (by show 4-(i+1)<4-i;omega) (⟨by omega,mulI_end om (by have:j=4:=(oA (yF h2));subst this;exact hM)⟩) []
 rw [h1]
 refine eF (aO (aO (bU (aI (sDc f205 [0,0,3] 3 [4,5,6] [0,0,1,1,1] [vs (nb r1 3) 4 4,vs (nb r2 0) 4 8,vi 4] [(2,(oK 3 (nb r1 3) (cL #[.int .u64 (f 0),.int .u64 (f 1),.int .u64 (f 2),.int .u64 (f 3)] 31)))] (jY 2<|cX (o_run _ [3,4] [1,1,1,1,0,0,0,0] (fun _ _=>[nb r2 0,nb r2 0,nb r2 0,nb r2 0,nb r1 3,nb r1 3,nb r1 3,nb r1 3]) (fun _ _=>by kernel_rfl))<|cN) (sDc f205 [0,0,3] 3 [4,5] [1,1,0] [vs (nb r1 2) 4 4,.slice (some ⟨nb r2 0,4,none⟩) 4 4,vi 4] [(2,(oK 0 (nb r1 2) (cL #[.int .u64 (f 4),.int .u64 (f 5),.int .u64 (f 6),.int .u64 (f 7)] 31)))] (jY 2<|cX (o_run _ [0,2] [1,1,1,1,0,0,0,0] (fun _ _=>[nb r2 0,nb r2 0,nb r2 0,nb r2 0,nb r1 2,nb r1 2,nb r1 2,nb r1 2]) (fun _ _=>by kernel_rfl))<|cN) (pO f205 4 [4,5] [] [.agg #[.int .u64 (f 4),.int .u64 (f 5),.int .u64 (f 6),.int .u64 (f 7)],.agg #[.int .u64 (f 0),.int .u64 (f 1),.int .u64 (f 2),.int .u64 (f 3)],undef,undef] [(2,(oK 0 (nb r1 2) (cL #[.int .u64 (f 4),.int .u64 (f 5),.int .u64 (f 6),.int .u64 (f 7)] 31))),(3,(oK 1 (nb r1 3) (cL #[.int .u64 (f 0),.int .u64 (f 1),.int .u64 (f 2),.int .u64 (f 3)] 31)))] (jE [[0],[1],[0],[1]]) (gQ ?_))))))))
 exact mR (v:=(.tuple #[.agg #[.int .u64 (f 4),.int .u64 (f 5),.int .u64 (f 6),.int .u64 (f 7)],.agg #[.int .u64 (f 0),.int .u64 (f 1),.int .u64 (f 2),.int .u64 (f 3)]])) (ps:=[0,0,0,0,1,1,1,1]) (fun _ hS=>⟨mul_end ha h (by have:i=4:=(oA (yF h1));subst this;exact hO),hS.bel⟩)
theorem rmul_any (a b:Nat) (w0:World) (ha:a<M) (h:b<M):Calls prog 205 #[U a,U b] w0 (jR (.tuple #[U (a*b / M),U (a*b%M)]) w0):=rmul_w a b ha h w0
end Go.Proofs.YtcgdimlbbdfdpaaGreatDoor
