/-
  What this statement needs, part 5: the texts of it, one behind the other.
-/
import Derived.Test.YtcgdimlbbdfdpaaGreatDoorBase4
import Derived.Test.YtcgdimlbbdfdpaaGreatDoorChecked
set_option maxRecDepth 100000
set_option linter.all false
namespace Go.Proofs.YtcgdimlbbdfdpaaGreatDoor
open Go Go.RowKit _root_.Go.Proofs.Tryz
theorem u8i:lJ prog 5:=u8like_of (by kernel_rfl)
theorem dE (x y:Nat) (h:x+y<9223372036854775808):IntKind.i64.wrap ((x:Int)+(y:Int))=((x+y:Nat):Int):=by
 rw [IntWalk.i64_in _ om];omega
theorem gU (x y:Nat) (h:x*y<9223372036854775808):IntKind.i64.wrap ((x:Int)*(y:Int))=((x*y:Nat):Int):=by
 rw [<- Int.natCast_mul]
 generalize x*y=z at h ⊢
 exact IntWalk.i64_in _ om
theorem u64N {x:Nat} (h:x<18446744073709551616):IntKind.u64.wrap (x:Int)=(x:Int):=oD rfl h
theorem u32N {x:Nat} (h:x<4294967296):IntKind.u32.wrap (x:Int)=(x:Int):=oD rfl h
theorem u8N {x:Nat} (h:x<256):IntKind.u8.wrap (x:Int)=(x:Int):=oD rfl h
theorem u32M (x:Nat):IntKind.u32.wrap (x:Int)=((x%4294967296:Nat):Int):=wrapU rfl x
theorem u8M (x:Nat):IntKind.u8.wrap (x:Int)=((x%256:Nat):Int):=wrapU rfl x
theorem sZ (x y:Nat) (h:x+y<18446744073709551616):IntKind.u64.wrap ((x:Int)+(y:Int))=((x+y:Nat):Int):=by
 rw [<- Int.natCast_add];exact u64N h
theorem u64_mulN (x y:Nat) (h:x*y<18446744073709551616):IntKind.u64.wrap ((x:Int)*(y:Int))=((x*y:Nat):Int):=by
 rw [<- Int.natCast_mul];exact u64N h
theorem u64_subN (x y:Nat) (h:y<=x) (hx:x<18446744073709551616):IntKind.u64.wrap ((x:Int)-(y:Int))=((x-y:Nat):Int):=by
 rw [show (x:Int)-(y:Int)=((x-y:Nat):Int) by omega];exact u64N om
theorem i64N {x:Int} (h: -9223372036854775808<=x/\x<9223372036854775808):IntKind.i64.wrap x=x:=IntWalk.i64_in _ om
theorem u8I {x:Int} (h:0<=x/\x<256):IntKind.u8.wrap x=x:=by
 obtain ⟨n,rfl⟩:=Int.eq_ofNat_of_zero_le h.1
 exact u8N om
theorem bneN {x k:Nat} (h:((x:Int) != (k:Int))=true):x≠k:=by
 intro e;subst e;simp at h
theorem bneN' {x k:Nat} (h:((x:Int) != (k:Int))=false):x=k:=by
 have:((x:Int))=(k:Int):=by simpa using h
 omega
def add32 (x y:Nat):Nat:=(x+y)%4294967296
def aA (x n:Nat):Nat:=x*2^(32-n)%4294967296|||x / 2^n
def dG (x:Nat):Nat:=4294967295-x
theorem iV (x y:Nat):add32 x y<4294967296:=Nat.mod_lt _ dC
theorem x8 (x:Nat):dG x<4294967296:=by unfold dG;omega
theorem kT {x y:Nat} (hx:x<4294967296) (hy:y<4294967296):x^^^y<4294967296:=Nat.xor_lt_two_pow (n:=32) hx hy
theorem gW {x:Nat} (y:Nat) (hx:x<4294967296):x&&&y<4294967296:=Nat.lt_of_le_of_lt Nat.and_le_left hx
theorem qG {x:Nat} (n:Nat) (hx:x<4294967296):x / 2^n<4294967296:=Nat.lt_of_le_of_lt (Nat.div_le_self _ _) hx
theorem bF {x:Nat} (n:Nat) (hx:x<4294967296):aA x n<4294967296 :=
 Nat.or_lt_two_pow (n:=32) (Nat.mod_lt _ dC) (qG n hx)
def ss0 (x:Nat):Nat:=(aA x 7^^^aA x 18)^^^x / 2^3
def ss1 (x:Nat):Nat:=(aA x 17^^^aA x 19)^^^x / 2^10
def word (X:LU) (n:Nat):Nat:=((gB X (4*n)*256+gB X (4*n+1))*256+gB X (4*n+2))*256+gB X (4*n+3)
def wstep (l:List Nat) (X:LU) (n:Nat):Nat :=
 if n<16 then word X n else add32 (add32 (add32 (l.getD 15 0) (ss0 (l.getD 14 0))) (l.getD 6 0)) (ss1 (l.getD 1 0))
def wl (X:LU):Nat->List Nat
 | 0=>[]
 | n+1=>wstep (wl X n) X n::wl X n
def wN (X:LU) (j:Nat):Nat:=(wl X (j+1)).headD 0
theorem wl_get (X:LU):∀ n k,k<n->(wl X n).getD k 0=wN X (n-1-k)
 | 0,k,h=>by omega
 | n+1,0,_=>by rw [Nat.sub_zero];simp only [Nat.add_sub_cancel];rfl
 | n + 1, k + 1, h => by
   rw [show n+1-1-(k+1)=n-1-k by omega,<- wl_get X n k om]
   rfl
theorem word_lt (X:LU) (n:Nat):word X n<4294967296:=by
 unfold word
 have:=iU X (4*n);have:=iU X (4*n+1);have:=iU X (4*n+2);have:=iU X (4*n+3)
 omega
theorem wN_step (X:LU) (i:Nat):wN X i=wstep (wl X i) X i:=rfl
theorem wN_word {X:LU} {i:Nat} (h:i<16):wN X i=word X i:=by
 rw [wN_step,wstep,if_pos h]
theorem wN_more {X:LU} {i:Nat} (h:16<=i):wN X i=add32 (add32 (add32 (wN X (i-16)) (ss0 (wN X (i-15)))) (wN X (i-7))) (ss1 (wN X (i-2))):=by
 rw [wN_step,wstep,if_neg om,wl_get X i 15 om,wl_get X i 14 om,wl_get X i 6 om,wl_get X i 1 om]
 rw [show i-1-15=i-16 by omega,show i-1-14=i-15 by omega,show i-1-6=i-7 by omega,show i-1-1=i-2 by omega]
theorem fG (X:LU) (i:Nat):wN X i<4294967296:=by
 by_cases h:i<16
 ·rw [wN_word h];exact word_lt X i
 ·rw [wN_more om];exact iV _ _
abbrev jC:Type:=Nat × Nat × Nat × Nat × Nat × Nat × Nat × Nat
def kL:List Nat:=[0x428a2f98,0x71374491,0xb5c0fbcf,0xe9b5dba5,0x3956c25b,0x59f111f1,0x923f82a4,0xab1c5ed5,0xd807aa98,0x12835b01,0x243185be,0x550c7dc3,0x72be5d74,0x80deb1fe,0x9bdc06a7,0xc19bf174,0xe49b69c1,0xefbe4786,0x0fc19dc6,0x240ca1cc,0x2de92c6f,0x4a7484aa,0x5cb0a9dc,0x76f988da,0x983e5152,0xa831c66d,0xb00327c8,0xbf597fc7,0xc6e00bf3,0xd5a79147,0x06ca6351,0x14292967,0x27b70a85,0x2e1b2138,0x4d2c6dfc,0x53380d13,0x650a7354,0x766a0abb,0x81c2c92e,0x92722c85,0xa2bfe8a1,0xa81a664b,0xc24b8b70,0xc76c51a3,0xd192e819,0xd6990624,0xf40e3585,0x106aa070,0x19a4c116,0x1e376c08,0x2748774c,0x34b0bcb5,0x391c0cb3,0x4ed8aa4a,0x5b9cca4f,0x682e6ff3,0x748f82ee,0x78a5636f,0x84c87814,0x8cc70208,0x90befffa,0xa4506ceb,0xbef9a3f7,0xc67178f2]
def kN (i:Nat):Nat:=kL.getD i 0
def bs0 (x:Nat):Nat:=(aA x 2^^^aA x 13)^^^aA x 22
def bs1 (x:Nat):Nat:=(aA x 6^^^aA x 11)^^^aA x 25
def chN (e f g:Nat):Nat:=(e&&&f)^^^(dG e&&&g)
def majN (a b c:Nat):Nat:=((a&&&b)^^^(a&&&c))^^^(b&&&c)
def t1N (k w e f g h:Nat):Nat:=add32 (add32 (add32 (add32 h (bs1 e)) (chN e f g)) k) w
def t2N (a b c:Nat):Nat:=add32 (bs0 a) (majN a b c)
def rnd (k w:Nat):jC->jC
 | (a,b,c,d,e,f,g,h)=>(add32 (t1N k w e f g h) (t2N a b c),a,b,c,add32 d (t1N k w e f g h),e,f,g)
def rnds (X:LU) (s:jC):Nat->jC
 | 0=>s
 | i+1=>rnd (kN i) (wN X i) (rnds X s i)
def addS:jC->jC->jC
 | (a,b,c,d,e,f,g,h),(a',b',c',d',e',f',g',h')=>(add32 a a',add32 b b',add32 c c',add32 d d',add32 e e',add32 f f',add32 g g',add32 h h')
def eP (s:jC) (X:LU):jC:=addS s (rnds X s 64)
def ok8:jC->Prop
 | (a,b,c,d,e,f,g,h)=>a<4294967296/\b<4294967296/\c<4294967296/\d<4294967296/\e<4294967296/\f<4294967296/\g<4294967296/\h<4294967296
theorem rnd_ok {k w:Nat} {s:jC} (h:ok8 s):ok8 (rnd k w s):=by
 obtain ⟨a,b,c,d,e,f,g,h'⟩:=s
 obtain ⟨h1,h2,h3,h4,h5,h6,h7,h8⟩:=h
 exact ⟨iV _ _,h1,h2,h3,iV _ _,h5,h6,h7⟩
theorem rnds_ok {X:LU} {s:jC} (h:ok8 s):∀ i,ok8 (rnds X s i)
 | 0=>h
 | i+1=>rnd_ok (rnds_ok h i)
theorem addS_ok (s t:jC):ok8 (addS s t):=by
 obtain ⟨a,b,c,d,e,f,g,h⟩:=s
 obtain ⟨a',b',c',d',e',f',g',h'⟩:=t
 exact ⟨iV _ _,iV _ _,iV _ _,iV _ _,iV _ _,iV _ _,iV _ _,iV _ _⟩
theorem rnds_next {X:LU} {s:jC} {i a b c d e f g h:Nat} (hr:rnds X s i=(a,b,c,d,e,f,g,h)) :
 rnds X s (i+1)=(add32 (t1N (kN i) (wN X i) e f g h) (t2N a b c),a,b,c,add32 d (t1N (kN i) (wN X i) e f g h),e,f,g):=by
 rw [rnds,hr];rfl
def zeros (n:Nat):Nat:=(64-(n+9)%64)%64
def be8 (x k:Nat):LU:=(List.range k).map fun i=>ob ((x / 2^(56-8*i)%256:Nat):Int)
def aK (n:Nat):LU:=128::(List.replicate (zeros n) 0++be8 (8*n) 8)
theorem be8_length (x k:Nat):(be8 x k).length=k:=by simp [be8]
theorem be8_succ (x k:Nat):be8 x (k+1)=be8 x k++[ob ((x / 2^(56-8*k)%256:Nat):Int)]:=by simp [be8,List.range_succ]
theorem nZ (n:Nat):(aK n).length=zeros n+9:=by simp [aK,be8_length]
theorem aB (n:Nat):zeros n<64:=Nat.mod_lt _ dC
theorem pad_mod (n:Nat):(n+(aK n).length)%64=0:=by rw [nZ];unfold zeros;omega
def init8:jC:=(0x6a09e667,0xbb67ae85,0x3c6ef372,0xa54ff53a,0x510e527f,0x9b05688c,0x1f83d9ab,0x5be0cd19)
def rM (m:LU):Nat->jC
 | 0=>init8
 | i+1=>eP (rM m i) (mid m (64*i) (64*i+64))
theorem uU (m:LU):∀ i,ok8 (rM m i)
 | 0=>⟨by decide,by decide,by decide,by decide,by decide,by decide,by decide,by decide⟩
 | i+1=>by rw [rM,eP];exact addS_ok _ _
def dY:jC->Nat->Nat
 | (a,b,c,d,e,f,g,h),j=>([a,b,c,d,e,f,g,h]:List Nat).getD j 0
def digL (s:jC):LU:=(List.range 32).map fun m=>ob ((dY s (m / 4) / 2^(24-m%4*8)%256:Nat):Int)
theorem digL_length (s:jC):(digL s).length=32:=by simp [digL]
def sH (b:LU):LU:=b++aK b.length
def shaL (b:LU):LU:=digL (rM (sH b) ((sH b).length / 64))
def shaN (b:LU):Nat:=nB (shaL b)
def bG (k:IntKind) (n:Nat) (f:Nat->Nat):Array Value:=((List.range n).map fun m=>Value.int k ((f m:Nat):Int)).toArray
theorem dX (k:IntKind) (n:Nat) (f:Nat->Nat):(bG k n f).size=n:=by simp [bG]
theorem nX {k:IntKind} {n:Nat} {f:Nat->Nat} {m:Nat} (h:m<n):(bG k n f)[m]? = some (.int k ((f m:Nat):Int)):=by
 simp [bG,h]
theorem yD {k:IntKind} {n:Nat} {f:Nat->Nat} {i v:Nat}:(bG k n f).setIfInBounds i (.int k ((v:Nat):Int))=bG k n (fun m=>if m=i then v else f m):=by
 apply Array.ext_getElem?
 intro m
 by_cases hm:m<n
 ·rw [nX hm]
  by_cases e:m=i
  ·subst e
   rw [Array.getElem?_setIfInBounds_self_of_lt (by rw [dX];exact hm),if_pos rfl]
  ·rw [Array.getElem?_setIfInBounds_ne om,nX hm,if_neg e]
 ·rw [Array.getElem?_eq_none (by rw [Array.size_setIfInBounds,dX];omega),Array.getElem?_eq_none (by rw [dX];omega)]
theorem gX {k:IntKind} {n:Nat} {f g:Nat->Nat} (h:∀ m,m<n->f m=g m):bG k n f=bG k n g:=by
 unfold bG
 congr 1
 apply List.map_congr_left
 intro m hm
 rw [h m (List.mem_range.1 hm)]
theorem rowK_bytes (s:jC):bG .u8 32 (fun m=>dY s (m / 4) / 2^(24-m%4*8)%256)=hB (nB (digL s)):=by
 rw [<- hB_nB (digL_length s)]
 unfold bG digL bs
 rw [List.map_map]
 congr 1
 apply List.map_congr_left
 intro m _
 show _=bv (ob _)
 rw [bv_ob om]
theorem yP {X:LU} {i:Nat} (h:i<X.length):(bs X).toArray[i]? = some (.int .u8 ((gB X i:Nat):Int)):=by
 rw [List.getElem?_toArray]
 unfold bs gB
 rw [List.getElem?_map,List.getElem?_eq_getElem h]
 simp [bv,List.getD,List.getElem?_eq_getElem h]
theorem sel_get {a b c d e f g h j:Nat} (hj:j<8):(#[Value.int .u32 ((a:Nat):Int),.int .u32 ((b:Nat):Int),.int .u32 ((c:Nat):Int),.int .u32 ((d:Nat):Int),.int .u32 ((e:Nat):Int),.int .u32 ((f:Nat):Int),.int .u32 ((g:Nat):Int),.int .u32 ((h:Nat):Int)]:Array Value)[j]? = some (.int .u32 ((dY (a,b,c,d,e,f,g,h) j:Nat):Int)):=by
 rcases (by omega:j=0\/j=1\/j=2\/j=3\/j=4\/j=5\/j=6\/j=7) with rfl | rfl | rfl | rfl | rfl | rfl | rfl | rfl<;>rfl
theorem sel8_lt {s:jC} (h:ok8 s) (j:Nat):dY s j<4294967296:=by
 obtain ⟨a,b,c,d,e,f,g,h'⟩:=s
 obtain ⟨h1,h2,h3,h4,h5,h6,h7,h8⟩:=h
 show ([a,b,c,d,e,f,g,h']:List Nat).getD j 0<4294967296
 rcases (by omega:j=0\/j=1\/j=2\/j=3\/j=4\/j=5\/j=6\/j=7\/8<=j) with rfl | rfl | rfl | rfl | rfl | rfl | rfl | rfl | hj<;>first | assumption | skip
 rw [List.getD_eq_getElem?_getD,List.getElem?_eq_none (by simpa using hj)]
 decide
def frc {α:Type} (x:Nat) (k:Nat->α):α:=match x with | 0=>k 0 | n+1=>k (Nat.succ n)
theorem fO {α:Type} (x:Nat) (k:Nat->α):frc x k=k x:=by cases x<;>rfl
def fA (x y:Nat):Nat:=Nat.mod (Nat.add x y) 4294967296
def fR (x a b:Nat):Nat:=Nat.lor (Nat.mod (Nat.mul x a) 4294967296) (Nat.div x b)
def fB0 (x:Nat):Nat:=Nat.xor (Nat.xor (fR x 1073741824 4) (fR x 524288 8192)) (fR x 1024 4194304)
def fB1 (x:Nat):Nat:=Nat.xor (Nat.xor (fR x 67108864 64) (fR x 2097152 2048)) (fR x 128 33554432)
def fS0 (x:Nat):Nat:=Nat.xor (Nat.xor (fR x 33554432 128) (fR x 16384 262144)) (Nat.div x 8)
def fS1 (x:Nat):Nat:=Nat.xor (Nat.xor (fR x 32768 131072) (fR x 8192 524288)) (Nat.div x 1024)
def fT1 (K w e f g h:Nat):Nat:=fA (fA (fA (fA h (fB1 e)) (Nat.xor (Nat.land e f) (Nat.land (Nat.sub 4294967295 e) g))) K) w
def fT2 (a b c:Nat):Nat:=fA (fB0 a) (Nat.xor (Nat.xor (Nat.land a b) (Nat.land a c)) (Nat.land b c))
def fW (w0 w1 w9 w14:Nat):Nat:=fA (fA (fA w0 (fS0 w1)) w9) (fS1 w14)
theorem fT1_eq (K w e f g h:Nat):fT1 K w e f g h=t1N K w e f g h:=rfl
theorem fT2_eq (a b c:Nat):fT2 a b c=t2N a b c:=rfl
theorem fW_eq (X:LU) (i:Nat):fW (wN X i) (wN X (i+1)) (wN X (i+9)) (wN X (i+14))=wN X (i+16):=by
 rw [wN_more (i:=i+16) om]
 rfl
def fgo:List Nat->Nat->Nat->Nat->Nat->Nat->Nat->Nat->Nat->Nat->Nat->Nat->Nat->Nat->Nat->Nat->Nat->Nat->Nat->Nat->Nat->Nat->Nat->Nat->Nat->jC
 | [],_,_,_,_,_,_,_,_,_,_,_,_,_,_,_,_,a,b,c,d,e,f,g,h=>(a,b,c,d,e,f,g,h)
 | K::r,w0,w1,w2,w3,w4,w5,w6,w7,w8,w9,w10,w11,w12,w13,w14,w15,a,b,c,d,e,f,g,h=>frc (fT1 K w0 e f g h) fun t=>frc (fA t (fT2 a b c)) fun x=>frc (fA d t) fun y=>frc (fW w0 w1 w9 w14) fun w16=>fgo r w1 w2 w3 w4 w5 w6 w7 w8 w9 w10 w11 w12 w13 w14 w15 w16 x a b c y e f g
theorem fgo_eq {X:LU} {s:jC}:∀ {r:List Nat} {i a b c d e f g h:Nat},r=kL.drop i->i+r.length=64->rnds X s i=(a,b,c,d,e,f,g,h)->fgo r (wN X i) (wN X (i+1)) (wN X (i+2)) (wN X (i+3)) (wN X (i+4)) (wN X (i+5)) (wN X (i+6)) (wN X (i+7)) (wN X (i+8)) (wN X (i+9)) (wN X (i+10)) (wN X (i+11)) (wN X (i+12)) (wN X (i+13)) (wN X (i+14)) (wN X (i+15)) a b c d e f g h=rnds X s 64
 | [], i, a, b, c, d, e, f, g, h, _, hl, hs => by
   obtain rfl:i=64:=by simpa using hl
   rw [hs];rfl
 | K :: r, i, a, b, c, d, e, f, g, h, hr, hl, hs => by
   have hi:i<kL.length:=by
    rcases Nat.lt_or_ge i kL.length with h1 | h1
    ·exact h1
    ·rw [List.drop_eq_nil_of_le h1] at hr;exact absurd hr (by simp)
   rw [List.drop_eq_getElem_cons hi] at hr
   obtain ⟨hK,hr'⟩:=List.cons.inj hr
   have hK:K=kN i:=by unfold kN;rw [List.getD_eq_getElem?_getD,List.getElem?_eq_getElem hi];exact hK
   have ih:=fgo_eq (X:=X) (s:=s) hr' (by simp only [List.length_cons] at hl;omega) (rnds_next hs)
   rw [fgo,fO,fO,fO,fO,fW_eq,fT1_eq,fT2_eq,hK]
   exact ih
def fcmp (w0 w1 w2 w3 w4 w5 w6 w7 w8 w9 w10 w11 w12 w13 w14 w15 a b c d e f g h:Nat):jC:=addS (a,b,c,d,e,f,g,h) (fgo kL w0 w1 w2 w3 w4 w5 w6 w7 w8 w9 w10 w11 w12 w13 w14 w15 a b c d e f g h)
theorem fcmp_eq {X:LU} {w0 w1 w2 w3 w4 w5 w6 w7 w8 w9 w10 w11 w12 w13 w14 w15 a b c d e f g h:Nat} (hw:(List.range 16).map (word X)=[w0,w1,w2,w3,w4,w5,w6,w7,w8,w9,w10,w11,w12,w13,w14,w15]):eP (a,b,c,d,e,f,g,h) X=fcmp w0 w1 w2 w3 w4 w5 w6 w7 w8 w9 w10 w11 w12 w13 w14 w15 a b c d e f g h:=by
 have hz:∀ j,j<16->wN X j=([w0,w1,w2,w3,w4,w5,w6,w7,w8,w9,w10,w11,w12,w13,w14,w15]:List Nat).getD j 0:=fun j hj=>by
  rw [<- hw,wN_word hj,List.getD_eq_getElem?_getD,List.getElem?_map,List.getElem?_range hj];rfl
 have h0:=fgo_eq (X:=X) (s:=(a,b,c,d,e,f,g,h)) (r:=kL) (i:=0) rfl rfl rfl
 rw [show wN X 0=w0 from hz 0 dC,show wN X (0+1)=w1 from hz 1 dC,show wN X (0+2)=w2 from hz 2 dC,show wN X (0+3)=w3 from hz 3 dC,show wN X (0+4)=w4 from hz 4 dC,show wN X (0+5)=w5 from hz 5 dC,show wN X (0+6)=w6 from hz 6 dC,show wN X (0+7)=w7 from hz 7 dC,show wN X (0+8)=w8 from hz 8 dC,show wN X (0+9)=w9 from hz 9 dC,show wN X (0+10)=w10 from hz 10 dC,show wN X (0+11)=w11 from hz 11 dC,show wN X (0+12)=w12 from hz 12 dC,show wN X (0+13)=w13 from hz 13 dC,show wN X (0+14)=w14 from hz 14 dC,show wN X (0+15)=w15 from hz 15 dC] at h0
 unfold eP fcmp
 rw [h0]
theorem bits_xorU {k:IntKind} (hk:k.signed=false) {a b:Nat} (ha:a<2^k.bits) (hb:b<2^k.bits):bits .xor k (a:Int) (b:Int)=((a^^^b:Nat):Int):=by
 have e:∀ n:Nat,n<2^k.bits->(BitVec.ofInt k.bits (n:Int)).toNat=n:=by
  intro n hn
  rw [BitVec.toNat_ofInt]
  rw [show ((2^k.bits:Nat):Int)=((2^k.bits:Nat):Int) from rfl,<- Int.natCast_emod,Int.toNat_natCast,Nat.mod_eq_of_lt hn]
 unfold bits
 simp only []
 rw [BitVec.toNat_xor,e a ha,e b hb,oD hk (Nat.xor_lt_two_pow ha hb)]
theorem jL {a b:Nat} (ha:a<4294967296) (hb:b<4294967296):bits .xor .u32 (a:Int) (b:Int)=((a^^^b:Nat):Int):=bits_xorU rfl ha hb
theorem vU {a b:Nat} (ha:a<4294967296) (hb:b<4294967296):bits .and .u32 (a:Int) (b:Int)=((a&&&b:Nat):Int):=bits_andU rfl ha hb
theorem not_xor32 {a:Nat} (ha:a<4294967296):bits .xor .u32 4294967295 (a:Int)=((dG a:Nat):Int):=by
 refine (bits_xorU (k:=.u32) rfl (a:=4294967295) (b:=a) dC ha).trans ?_
 congr 1
 unfold dG
 have h:(4294967295-BitVec.ofNat 32 a).toNat=(BitVec.ofNat 32 a^^^4294967295).toNat:=by
  have h2:BitVec.ofNat 32 a^^^4294967295= ~~~ (BitVec.ofNat 32 a):=by
   rw [show (4294967295:BitVec 32)=BitVec.allOnes 32 from rfl,BitVec.xor_allOnes]
  rw [h2,BitVec.toNat_not,BitVec.toNat_sub]
  have h3:(BitVec.ofNat 32 a).toNat=a:=by simp [Nat.mod_eq_of_lt ha]
  rw [h3]
  show (2^32-a+4294967295)%2^32=2^32-1-a
  omega
 have h3:(BitVec.ofNat 32 a).toNat=a:=by simp [Nat.mod_eq_of_lt ha]
 rw [BitVec.toNat_xor,BitVec.toNat_sub,h3] at h
 have h4:(4294967295:BitVec 32).toNat=4294967295:=rfl
 rw [h4] at h
 rw [Nat.xor_comm,<- h]
 show (2^32-a+4294967295)%2^32=4294967295-a
 omega
theorem aQ (x y:Nat):IntKind.u32.wrap ((x:Int)+(y:Int))=((add32 x y:Nat):Int):=by
 rw [<- Int.natCast_add];exact u32M (x+y)
theorem u64_neg {n:Nat} (h0:0<n) (h:n<32):IntKind.u64.wrap (0-(n:Int))=((18446744073709551616-n:Nat):Int):=by
 simp only [IntKind.wrap]
 show (0-(n:Int))%18446744073709551616=_
 omega
theorem and31 {n:Nat} (h0:0<n) (h:n<32):bits .and .u64 ((18446744073709551616-n:Nat):Int) 31=((32-n:Nat):Int):=by
 refine (bits_andU (k:=.u64) rfl (a:=18446744073709551616-n) (b:=31) (by show _<18446744073709551616;omega) dC).trans ?_
 congr 1
 rw [show (31:Nat)=2^5-1 from rfl,Nat.and_two_pow_sub_one_eq_mod]
 omega
theorem u64_32 {n:Nat} (h0:0<n) (h:n<32):IntKind.u64.wrap (32-((32-n:Nat):Int))=((n:Nat):Int):=by
 rw [show (32:Int)-((32-n:Nat):Int)=((n:Nat):Int) by omega]
 exact u64N om
theorem run_shlM {P:Program} {t:TypeId} {yk:IntKind} {x c:Nat} (hc:c<=32) (w:World):(binOp .shl t (.int .u32 (x:Int)) (.int yk (c:Int))).run P w=.ok (.int .u32 ((x*2^c%4294967296:Nat):Int)) w:=by
 have e:IntKind.u32.wrap ((x:Int)*2^(min (c:Int).toNat IntKind.u32.bits))=((x*2^c%4294967296:Nat):Int):=by
  rw [Int.toNat_natCast,Nat.min_eq_left (show c<=IntKind.u32.bits from hc),show (x:Int)*2^c=((x*2^c:Nat):Int) by simp]
  exact u32M _
 simp only [binOp,Op.shift,if_neg (by omega: ¬ (c:Int)<0),e]
 rfl
theorem or_rot {x n:Nat} (hx:x<4294967296):bits .or .u32 ((x*2^(32-n)%4294967296:Nat):Int) ((x / 2^n:Nat):Int)=((aA x n:Nat):Int) :=
 bits_orU (k:=.u32) rfl (Nat.mod_lt _ dC) (qG n hx)
def yI (X:LU) (i:Nat):Nat->Nat
 | 0=>0
 | j+1=>yI X i j*256+gB X (4*i+j)
theorem pwb_lt (X:LU) (i:Nat):∀ j,yI X i j<256^j
 | 0=>by simp [yI]
 | j+1=>by have:=pwb_lt X i j;have:=iU X (4*i+j);rw [yI,Nat.pow_succ];omega
theorem pwb_small {X:LU} {i j:Nat} (h:j<4):yI X i j<16777216 :=
 Nat.lt_of_lt_of_le (pwb_lt X i j) (by rw [show (16777216:Nat)=256^3 from rfl];exact Nat.pow_le_pow_right dC om)
theorem pwb_word (X:LU) (i:Nat):yI X i 4=word X i:=by simp [yI,word]
theorem run_pw8 {P:Program} {t:TypeId} {X:LU} {i j:Nat} (h:j<4) (w:World):(binOp .shl t (.int .u32 ((yI X i j:Nat):Int)) (.int .u64 8)).run P w=.ok (.int .u32 ((yI X i j*256:Nat):Int)) w :=
 yN (k:=.u32) (yk:=.u64) (x:=yI X i j) (c:=8) rfl (by have:=pwb_small (X:=X) (i:=i) h;show yI X i j*256<4294967296;omega) (fun _=>by decide) w
theorem or_pw {X:LU} {i j:Nat} (h:j<4):bits .or .u32 ((yI X i j*256:Nat):Int) ((gB X (4*i+j):Nat):Int)=((yI X i (j+1):Nat):Int):=by
 have h1:=pwb_small (X:=X) (i:=i) h
 have h2:=iU X (4*i+j)
 rw [bits_orU (k:=.u32) rfl (by show _<4294967296;omega) (by show _<4294967296;omega)]
 congr 1
 rw [Nat.mul_comm,show (256:Nat)=2^8 from rfl,<- Nat.two_pow_add_eq_or_of_lt h2,yI,Nat.mul_comm]
theorem or_gen {x y k:Nat} (h:y<2^k) (hx:x*2^k<4294967296) (hy:y<4294967296):bits .or .u32 ((x*2^k:Nat):Int) ((y:Nat):Int)=((x*2^k+y:Nat):Int):=by
 rw [bits_orU (k:=.u32) rfl hx hy]
 congr 1
 rw [Nat.mul_comm,<- Nat.two_pow_add_eq_or_of_lt h]
theorem or_w1 {a b:Nat} (ha:a<256) (hb:b<256):bits .or .u32 ((a*16777216:Nat):Int) ((b*65536:Nat):Int)=(((a*256+b)*65536:Nat):Int) :=
 (or_gen (x:=a) (y:=b*65536) (k:=24) (by show _<16777216;omega) (by show a*16777216<_;omega) om).trans (congrArg Nat.cast (show a*16777216+b*65536=_ by omega))
theorem or_w2 {a b c:Nat} (ha:a<256) (hb:b<256) (hc:c<256):bits .or .u32 (((a*256+b)*65536:Nat):Int) ((c*256:Nat):Int)=((((a*256+b)*256+c)*256:Nat):Int) :=
 (or_gen (x:=a*256+b) (y:=c*256) (k:=16) (by show _<65536;omega) (by show (a*256+b)*65536<_;omega) om).trans (congrArg Nat.cast (show (a*256+b)*65536+c*256=_ by omega))
theorem or_w3 {X:LU} {i:Nat}:bits .or .u32 ((((gB X (4*i)*256+gB X (4*i+1))*256+gB X (4*i+2))*256:Nat):Int) ((gB X (4*i+3):Nat):Int)=((word X i:Nat):Int):=by
 have h0:=iU X (4*i);have h1:=iU X (4*i+1);have h2:=iU X (4*i+2);have h3:=iU X (4*i+3)
 exact or_gen (x:=(gB X (4*i)*256+gB X (4*i+1))*256+gB X (4*i+2)) (y:=gB X (4*i+3)) (k:=8) h3 (by show _*256<_;omega) om
def sc (X:LU) (i j m:Nat):Nat:=if m<i then word X m else if m=i then yI X i j else 0
def tc (X:LU) (i m:Nat):Nat:=if m<i then wN X m else 0
theorem sc_zero (X:LU) (m:Nat):sc X 0 0 m=0:=by unfold sc;rw [if_neg om];split<;>rfl
theorem sc_at (X:LU) (i j:Nat):sc X i j i=yI X i j:=by unfold sc;rw [if_neg om,if_pos rfl]
theorem sc_set {X:LU} {i j:Nat}:(bG .u32 64 (sc X i j)).setIfInBounds i (.int .u32 ((yI X i (j+1):Nat):Int))=bG .u32 64 (sc X i (j+1)):=by
 rw [yD]
 refine gX fun m _=>?_
 by_cases e:m=i
 ·rw [if_pos e,e,sc_at]
 ·rw [if_neg e];unfold sc;rw [if_neg e,if_neg e]
theorem sc_next (X:LU) (i:Nat):bG .u32 64 (sc X i 4)=bG .u32 64 (sc X (i+1) 0):=by
 refine gX fun m _=>?_
 unfold sc
 by_cases h1:m<i
 ·rw [if_pos h1,if_pos om]
 ·rw [if_neg h1]
  by_cases h2:m=i
  ·rw [if_pos h2,if_pos om,h2,pwb_word]
  ·rw [if_neg h2, if_neg om]
   split<;>rfl
theorem sc_tc (X:LU):bG .u32 64 (sc X 16 0)=bG .u32 64 (tc X 16):=by
 refine gX fun m _=>?_
 unfold sc tc
 by_cases h1:m<16
 ·rw [if_pos h1,if_pos h1,wN_word h1]
 ·rw [if_neg h1,if_neg h1];split<;>rfl
theorem sc_word {X:LU} {i:Nat}:(bG .u32 64 (sc X i 0)).setIfInBounds i (.int .u32 ((word X i:Nat):Int))=bG .u32 64 (sc X (i+1) 0):=by
 rw [yD]
 refine gX fun m _=>?_
 unfold sc
 by_cases e:m=i
 ·rw [if_pos e,if_pos om,e]
 ·rw [if_neg e, if_neg e]
  by_cases h1:m<i
  ·rw [if_pos h1,if_pos om]
  ·rw [if_neg h1,if_neg om];split<;>rfl
theorem kG {X:LU} {i m:Nat} (h:m<i) (h64:m<64):(bG .u32 64 (tc X i))[m]? = some (.int .u32 ((wN X m:Nat):Int)):=by
 rw [nX h64,tc,if_pos h]
theorem tc_set {X:LU} {i v:Nat} (hv:v=wN X i):(bG .u32 64 (tc X i)).setIfInBounds i (.int .u32 ((v:Nat):Int))=bG .u32 64 (tc X (i+1)):=by
 rw [yD]
 refine gX fun m _=>?_
 unfold tc
 by_cases e:m=i
 ·rw [if_pos e,if_pos om,e,hv]
 ·rw [if_neg e]
  by_cases h1:m<i
  ·rw [if_pos h1,if_pos om]
  ·rw [if_neg h1,if_neg om]
theorem tc_end {X:LU} {i:Nat} (h:64<=i):bG .u32 64 (tc X i)=bG .u32 64 (wN X):=by
 refine gX fun m hm=>?_
 rw [tc,if_pos om]
theorem kC_get {i:Nat} (h:i<64):(bG .u32 64 kN)[i]? = some (.int .u32 ((kN i:Nat):Int)):=nX h
theorem cmp_end {X:LU} {a b c d e f g h a' b' c' d' e' f' g' h' i:Nat} (hr:rnds X (a,b,c,d,e,f,g,h) i=(a',b',c',d',e',f',g',h')) (hi:i=64) :
 eP (a,b,c,d,e,f,g,h) X=(add32 a a',add32 b b',add32 c c',add32 d d',add32 e e',add32 f f',add32 g g',add32 h h'):=by
 subst hi
 rw [eP,hr];rfl
theorem mid_take {m:LU} {a:Nat} (n:Nat) (_h:a+n<=m.length):(mid m a m.length).take n=mid m a (a+n):=by
 unfold mid
 rw [List.take_length,List.take_drop,Nat.add_comm]
theorem bne0N {x:Nat} (h:((x:Int) != 0)=true):x≠0:=bneN (k:=0) h
theorem bne0N' {x:Nat} (h:((x:Int) != 0)=false):x=0:=bneN' (k:=0) h
theorem l9 {j:Nat} {X:LU} (hX:X=128::List.replicate j 0):X.length=j+1:=by rw [hX];simp
theorem pad_hd0 (n:Nat):Hd ((zB (9+zeros n)).setIfInBounds 0 (.int .u8 128)) (128::List.replicate (zeros n) 0):=by
 unfold Hd zB
 simp only [Array.toList_setIfInBounds]
 rw [show 9+zeros n=(zeros n+8)+1 by omega,List.replicate_succ]
 show (((bv 0::bs (List.replicate (zeros n+8) 0)).set 0 (.int .u8 128)).take (List.replicate (zeros n) (0:UInt8)).length.succ)=_
 rw [List.set_cons_zero,List.take_succ_cons,List.length_replicate]
 show _=bv 128::bs (List.replicate (zeros n) 0)
 congr 1
 unfold bs
 rw [List.map_replicate,List.map_replicate,List.take_replicate,Nat.min_eq_left om]
theorem pad_next {n i:Nat} {X:LU} (hX:X=128::(List.replicate (zeros n) 0++be8 (8*n) i)):X++[ob ((8*n / 2^(56-8*i)%256:Nat):Int)]=128::(List.replicate (zeros n) 0++be8 (8*n) (i+1)):=by
 rw [hX,be8_succ];simp
theorem pad_end {n i:Nat} {X:LU} (hX:X=128::(List.replicate (zeros n) 0++be8 (8*n) i)) (hi:i=8):X=aK n:=by
 subst hi;exact hX
theorem cO {n i:Nat} {X:LU} (hX:X=128::(List.replicate (zeros n) 0++be8 (8*n) i)):X.length=1+zeros n+i:=by
 rw [hX];simp [be8_length];omega
theorem zer_next {j:Nat} {X:LU} (hX:X=128::List.replicate j 0):X++[0]=128::List.replicate (j+1) 0:=by
 rw [hX,List.replicate_succ'];rfl
theorem xZ {n j:Nat} (hj:j<=zeros n) (h:(n+(j+1)+8)%64≠0):j<zeros n:=by
 unfold zeros at *;omega
theorem zer_end {n j:Nat} (hj:j<=zeros n) (h:(n+(j+1)+8)%64=0):j=zeros n:=by
 unfold zeros at *;omega
theorem zer_be {n j:Nat} {X:LU} (hX:X=128::List.replicate j 0) (hj:j=zeros n):X=128::(List.replicate (zeros n) 0++be8 (8*n) 0):=by
 rw [hX,hj];simp [be8]
def wY (s:jC) (m j:Nat):Nat:=if j<m then dY s (j / 4) / 2^(24-j%4*8)%256 else 0
theorem hB0_row (s:jC):hB 0=bG .u8 32 (wY s 0):=by
 have h:bG .u8 32 (wY s 0)=bG .u8 32 (fun _=>0):=gX fun m _=>by unfold wY;rw [if_neg om]
 exact (show hB 0=bG .u8 32 (fun _=>0) by kernel_rfl).trans h.symm
theorem yH {s:jC} {m v:Nat} (hv:v=dY s (m / 4) / 2^(24-m%4*8)%256):(bG .u8 32 (wY s m)).setIfInBounds m (.int .u8 ((v:Nat):Int))=bG .u8 32 (wY s (m+1)):=by
 rw [yD]
 refine gX fun j _=>?_
 unfold wY
 by_cases e:j=m
 ·rw [if_pos e,if_pos om,e,hv]
 ·rw [if_neg e]
  by_cases h1:j<m
  ·rw [if_pos h1,if_pos om]
  ·rw [if_neg h1,if_neg om]
theorem dgf_end {s:jC} {m:Nat} (h:32<=m):bG .u8 32 (wY s m)=hB (nB (digL s)):=by
 rw [<- rowK_bytes]
 refine gX fun j hj=>?_
 rw [wY,if_pos om]
theorem sha_next {m:LU} {i:Nat} {s:jC} (hS:rM m i=s) (h:64*i+64<=m.length):rM m (i+1)=eP s ((mid m (64*i) m.length).take 64):=by
 rw [rM,hS,mid_take 64 h]
theorem sha_end {b:LU} {i:Nat} {s:jC} (hS:rM (b++aK b.length) i=s) (hi:i=(b++aK b.length).length / 64):nB (digL s)=shaN b:=by
 subst hi;rw [<- hS];rfl
theorem aN (b:LU):(b++aK b.length).length=b.length+zeros b.length+9:=by rw [List.length_append,nZ];omega
theorem copy_arr {C:Array Value} {n:Nat} {xs:LU} (hC:C.size=n) (h:n<=xs.length):inpl C 0 (bs (xs.take n))=(bs (xs.take n)).toArray:=by
 unfold inpl
 have hl:(bs (xs.take n)).length=n:=by rw [dJ,List.length_take];omega
 rw [List.take_zero,List.nil_append,hl,Nat.zero_add,List.drop_of_length_le (by rw [Array.length_toList];omega),List.append_nil]
theorem idx_arr8 {P:Program} {t el:TypeId} (hu:P.underlying t=some (.array 8 el)) (he:P.underlying el=some (.int .u32)) (hs:∀ w,(sizeOf el).run P w=.ok 1 w) {a b c d e f g h j:Nat} (hj:j<8) (w:World) :
 (do pure (Next.value (<- Instr.index t (.agg #[Value.int .u32 ((a:Nat):Int),.int .u32 ((b:Nat):Int),.int .u32 ((c:Nat):Int),.int .u32 ((d:Nat):Int),.int .u32 ((e:Nat):Int),.int .u32 ((f:Nat):Int),.int .u32 ((g:Nat):Int),.int .u32 ((h:Nat):Int)]) (.int .i64 ((j:Nat):Int)))):Sem Next).run P w=.ok (.value (.int .u32 ((dY (a,b,c,d,e,f,g,h) j:Nat):Int))) w:=by
 have hp:=rG (P:=P) he _ j _ (sel_get (a:=a) (b:=b) (c:=c) (d:=d) (e:=e) (f:=f) (g:=g) (h:=h) hj) w
 have hc:(0:Int)<=(j:Int)/\(j:Int)<((8:Nat):Int):=by omega
 simp only [Instr.index,asIntOf,Sem.run_bind,Sem.run_pure,Result.andThen_ok,run_underlying hu,if_pos hc,hs,Int.toNat_natCast,Nat.mul_one,hp]
abbrev KbK (w:World):Prop:=Kb w 1 (bG .u32 64 kN)
abbrev KbI (w:World):Prop:=Kb w 0 #[.int .u32 1779033703,.int .u32 3144134277,.int .u32 1013904242,.int .u32 2773480762,.int .u32 1359893119,.int .u32 2600822924,.int .u32 528734635,.int .u32 1541459225]
def rowS (n:Nat) (pa:Nat->OA) (pc:Nat->Nat) (pB:Nat->LU):Array Value:=((List.range n).map fun k=>Value.slice (pa k) (pB k).length (pc k)).toArray
theorem rowS_get {n:Nat} {pa:Nat->OA} {pc:Nat->Nat} {pB:Nat->LU} {k:Nat} (h:k<n):(rowS n pa pc pB)[k]? = some (.slice (pa k) (pB k).length (pc k)):=by
 simp [rowS,h]
def AllB (w:World) (n:Nat) (pa:Nat->OA) (pc:Nat->Nat) (pB:Nat->LU):Prop:=∀ k,k<n->Bs w (pa k) (pc k) (pB k)
theorem AllB.pers0 {w:World} {n:Nat} {pa:Nat->OA} {pc:Nat->Nat} {pB:Nat->LU} (h:AllB w n pa pc pB):iI (fun _=>False) (fun w=>AllB w n pa pc pB) w:=by
 refine ⟨fun b=>b<w.heap.size,fun b hb=>⟨hb,id⟩,fun w' hw k hk=>?_⟩
 obtain ⟨S,s1,s2⟩:=(h k hk).pers0
 exact s2 w' (fun b hb=>hw b (s1 b hb).1)
theorem allB2 {w:World} {a0 a1:OA} {c0 c1:Nat} {B0 B1:LU} (h0:Bs w a0 c0 B0) (h1:Bs w a1 c1 B1):AllB w 2 (fun k=>[a0,a1].getD k none) (fun k=>[c0,c1].getD k 0) (fun k=>[B0,B1].getD k []):=by
 intro k hk
 rcases (by omega:k=0\/k=1) with rfl | rfl
 ·exact h0
 ·exact h1
def xI (pB:Nat->LU):Nat->LU
 | 0=>[]
 | k+1=>xI pB k++pB k
theorem catB_le (pB:Nat->LU) {i n:Nat} (h:i<=n):(xI pB i).length<=(xI pB n).length:=by
 induction n with
 | zero=>rw [show i=0 by omega];exact Nat.le_refl _
 | succ n ih =>
   rcases (by omega:i<=n\/i=n+1) with e | e
   ·rw [xI,List.length_append];have:=ih e;omega
   ·rw [e];exact Nat.le_refl _
theorem catB_next (pB:Nat->LU) {i n:Nat} (h:i<n):(xI pB i).length+(pB i).length<=(xI pB n).length:=by
 have:=catB_le pB (i:=i+1) (n:=n) h
 rw [xI,List.length_append] at this
 exact this
section
variable {P:Program} {t e:TypeId}
theorem idx_rowS (ht:P.underlying t=some (.slice e)) (hs:∀ w,(sizeOf e).run P w=.ok 1 w) {g m c:Nat} {k:IntKind} {z:Int} {j:Nat} (hz:z=(j:Int)) (hj:j<m) (w:World) :
 (do pure (Next.value (<- Instr.indexAt t (.slice (some ⟨g,0,none⟩) m c) (.int k z))):Sem Next).run P w=.ok (.value (.pointer (some ⟨g,j,none⟩))) w:=by
 subst hz
 have:=vO (P:=P) (t:=t) (elem:=e) (len:=m) (cap:=c) (s:=1) (g:=g) (off:=0) (k:=k) (n:=j) ht hs om om w
 simpa using this
end
theorem pad_any (n:Nat) (hn:n<=140737488351232) (w0:World):Calls prog 156 #[vx n] w0 (fun ε w'=>∃ α κ,ε=.returned (.slice α (aK n).length κ)/\jG w0 w'/\Fs w0 w' α κ (aK n)):=by
 refine Calls.cW 33 (fun _=>True) func156 rfl rfl rfl jT (jJ f156 1 [0,2] [vz] (pO f156 6 [0,2,3] [] [vx n,vx (n+9),vx ((n+9)%64),vx (64-((n+9)%64)),vx (zeros n),vx (zeros n)] [] (jY 1<|cA (v:=fun r=>(.int .u64 (IntKind.u64.wrap ((n:Int)+9)))) (fun _=>(vx (n+9))) (fun _=>congrArg (Value.int .u64) (sZ n 9 (oA (aB n))))<|cB (a:=fun r=>(vx (n+9))) (b:=fun r=>(.int .u64 64)) (v:=fun r=>(vx ((n+9)%64))) .rem 29 (fun _ w=>xN (k:=.u64) (n:=(n+9)) (d:=64) dC w)<|cA (v:=fun r=>(.int .u64 (IntKind.u64.wrap (64-(((n+9)%64:Nat):Int))))) (fun _=>(vx (64-((n+9)%64)))) (fun _=>congrArg (Value.int .u64) (u64_subN 64 ((n+9)%64) (oA (aB n)) (oA (aB n))))<|cB (a:=fun r=>(vx (64-((n+9)%64)))) (b:=fun r=>(.int .u64 64)) (v:=fun r=>(vx (zeros n))) .rem 29 (fun _ w=>xN (k:=.u64) (n:=64-(n+9)%64) (d:=64) dC w)<|jX 1) (sS f156 6 [0,2,4] [] (fun r=>let qa:=vs (nb r 4) (List.replicate (zeros n+1) (0:UInt8)).length (9+(zeros n));[vx (zeros n),vx (zeros n+1),vx (zeros n),vx (9+(zeros n)),qa,qa]) (fun r=>[(4,(nw r 4 (cL (zB (9+(zeros n))) 5)))]) (jY 1<|cA (v:=fun r=>(.int .u64 (IntKind.u64.wrap (1+(zeros n:Int))))) (fun _=>(vx (zeros n+1))) (fun _=>congrArg (Value.int .u64) ((sZ 1 (zeros n) (oA (aB n))).trans om))<|jY 1<|cA (v:=fun r=>(.int .u64 (IntKind.u64.wrap (9+(zeros n:Int))))) (fun _=>(vx (9+(zeros n)))) (fun _=>congrArg (Value.int .u64) (sZ 9 (zeros n) (oA (aB n))))<|cX (o_new1 _ (fun _=>do pure (Next.value (<- Instr.makeSlice 22 (vx (zeros n+1)) (vx (9+(zeros n)))))) (fun _ ζ=>(vs (ζ.headD 0) (List.replicate (zeros n+1) (0:UInt8)).length (9+(zeros n)))) (fun _ _=>(cL (zB (9+(zeros n))) 5)) (fun _ _=>kr) (fun _=>kr) tV (fun _ _ w _=>make_rowL underlying22 u8i (List.replicate (zeros n+1) (0:UInt8)) ((rfl).trans (by rw [List.length_replicate])) (rfl) (by have:=hn;have:=aB n;rw [List.length_replicate];omega) (oA (aB n)) w))<|jX 1) (fun r3=>pO f156 3 [0,2,4] [] [vs (nb r3 4) (List.replicate (zeros n+1) (0:UInt8)).length (9+(zeros n)),jp (nb r3 4) 0,undef] [(2,(oK 0 (nb r3 4) (cL ((zB (9+zeros n)).setIfInBounds 0 (.int .u8 128)) 5)))] (jY 1<|qSc (idx_row (g:=nb r3 4) (c:=9+(zeros n)) (k:=.i64) underlying22 u8i (show 0=((0:Nat):Int) from rfl) (show 0<(List.replicate (zeros n+1) (0:UInt8)).length from (by have:=hn;have:=aB n;rw [List.length_replicate];omega)))<|oStc 0 5 (nb r3 4) 0 (zB (9+(zeros n))) ((zB (9+zeros n)).setIfInBounds 0 (.int .u8 128)) 5 (.int .u8 128) sizeOf5 (by rw [zB_size];omega) rfl<|cN) (aU (jJ f156 1 [0,2,4,18] [vi 0] (aY ?_)))))))
 refine oL (σ:=Nat × (LU) × (Array Value)) (fun ⟨i,X,_⟩=>[(0,(vx n)),(2,vz),(4,(vs (nb r3 4) X.length (9+zeros n))),(18,(vn i))]) (fun ⟨_,_,C⟩=>[(nb r3 4,(cL C 5))]) (fun ⟨i,_,_⟩=>8-i)
  (fun ⟨i,X,C⟩=>(i<=8)/\(X=128::(List.replicate (zeros n) 0++be8 (8*n) i))/\(Hd C X)/\(C.size=9+zeros n)) (0,128::List.replicate (zeros n) (0:UInt8),(zB (9+zeros n)).setIfInBounds 0 (.int .u8 128)) (⟨by decide,by simp [be8],pad_hd0 n,by rw [Array.size_setIfInBounds,zB_size]⟩) [] ?_
 rintro ⟨i,X,C⟩ ⟨hi,hX,hC,hs⟩
 refine jJ f156 1 [0,2,4,18,19] [.bool (decide ((i:Int)<8))] (aU (oC (decide ((i:Int)<8)) (fun h1=>?_) (fun h1=>?_)))
 ·rw [h1]
  have:=yT h1
  refine dM (aI (aU (aY (jJ f156 2 [0,2,4,5,18] [vn i,vn i] (rS f156 11 [0,2,4,18] [1,0] (fun r=>let qa:=([ob ((8*n / 2^(56-8*i)%256:Nat):Int)]:LU);let qb:=vs (nb r3 4) (X++qa).length (9+zeros n);[vs (nb r3 4) X.length (9+zeros n),vx n,vx (8*n),vn i,vn (8*i),vn (56-8*i),vx (8*n / 2^(56-8*i)),vy (8*n / 2^(56-8*i)%256),vs (nb r 8) qa.length 1,qb,qb]) (fun r=>[(8,(nw r 8 (cL #[vy (8*n / 2^(56-8*i)%256)] 5))),(9,(oK 0 (nb r3 4) (cL (inpl C X.length (bs ([ob ((8*n / 2^(56-8*i)%256:Nat):Int)]:LU))) 5)))]) (jY 2<|cA (v:=fun r=>(.int .u64 (IntKind.u64.wrap (8*(n:Int))))) (fun _=>(vx (8*n))) (fun _=>congrArg (Value.int .u64) (u64_mulN 8 n (oB (aB n) (cO hX))))<|jY 1<|pM (gU 8 i (oB (aB n) (cO hX)))<|jWc (56-((8*i:Nat):Int)) (56-8*i) ((i64N (oB (aB n) (cO hX))).trans (oB (aB n) (cO hX)))<|cB (a:=fun r=>(vx (8*n))) (b:=fun r=>(vn (56-8*i))) (v:=fun r=>(vx (8*n / 2^(56-8*i)))) .shr 29 (fun _ w=>iG (k:=.u64) (x:=8*n) (c:=56-8*i) (by have:=hn;have:=aB n;have:=hi;have:=cO hX;show 8*n<18446744073709551616;omega) w)<|kE (vy (8*n / 2^(56-8*i)%256)) (congrArg (Value.int .u8) (u8M (8*n / 2^(56-8*i))))<|jY 1<|cX (o_put1 _ 0 (fun r=>do pure (Next.value (<- Builtin.append_ #[22,22] 22 #[vs (nb r3 4) X.length (9+zeros n),vs (nb r 8) ([ob ((8*n / 2^(56-8*i)%256:Nat):Int)]:LU).length 1]))) (fun _=>nb r3 4) (fun _=>(cL C 5)) (fun _=>(cL (inpl C X.length (bs ([ob ((8*n / 2^(56-8*i)%256:Nat):Int)]:LU))) 5)) (fun _=>(vs (nb r3 4) (X++([ob ((8*n / 2^(56-8*i)%256:Nat):Int)]:LU)).length (9+zeros n))) (fun _=>kr) (fun _=>kr) (fun _=>kr) (fun _=>kr) tV (fun r _ _ hG hg=>qH underlying22 u8i hg (Bs.src (tx:=22) underlying22 (Bs.of_hd (hG.kn (g:=nb r 8) (o:=(cL #[vy (8*n / 2^(56-8*i)%256)] 5)) 65) (hd1 om) (Nat.le_refl 1) lb)) hs (by have:=hn;have:=aB n;have:=hi;have:=cO hX;simp only [List.length_cons,List.length_nil];omega)))<|jX 1) (fun _=>bK (aI (vY f156 2 [0,2,4,18] [] [vn (i+1),vn (i+1)] [] (pM (dE i 1 (oB (aB n) (cO hX)))<|jX 1) (?_)))))))))
  exact mN (i+1,X++([ob ((8*n / 2^(56-8*i)%256:Nat):Int)]:LU),inpl C X.length (bs ([ob ((8*n / 2^(56-8*i)%256:Nat):Int)]:LU))) (by show 8-(i+1)<8-i;have:=aB n;have:=cO hX;omega) (⟨(oB (aB n) (cO hX)),pad_next hX,Hd.inpl hC rfl,(qL _ _ _ (room_le hs (by have:=hn;have:=aB n;have:=hi;have:=cO hX;simp only [List.length_cons,List.length_nil];omega))).trans hs⟩) []
 rw [h1]
 refine eF (aO (aO (bU (aI (jJ f156 2 [2] (let qa:=vs (nb r3 4) X.length (9+zeros n);[qa,qa]) (gQ (mD [(2,(vs (nb r3 4) X.length (9+zeros n)))] [(nb r3 4,(cL C 5))] ?_)))))))
 exact mR (v:=(vs (nb r3 4) X.length (9+zeros n))) (fun _ hS=>⟨some ⟨nb r3 4,0,none⟩,9+zeros n,congrArg Ending.returned (by rw [(pad_end hX (by have:=yF h1;have:=aB n;have:=cO hX;omega))]),hS.bel,fs_eq (pad_end hX (by have:=yF h1;have:=aB n;have:=cO hX;omega)) (hS.fresh (.head _) hC (oB (aB n) (cO hX)) (oB (aB n) (cO hX)))⟩)
theorem shrow_any (g:Nat) (n:Nat) (pa:Nat->OA) (pc:Nat->Nat) (pB:Nat->LU) (hn:n<=16) (hl:(xI pB n).length<=140737488351232) (h0:0<(pB 0).length) (w0:World) (hf0:Kb w0 g (rowS n pa pc pB)) (hf1:AllB w0 n pa pc pB):Calls prog 155 #[vs g n n] w0 (fun ε w'=>∃ α κ,ε=.returned (.slice α (xI pB n).length κ)/\jG w0 w'/\Fs w0 w' α κ (xI pB n)):=by
 refine Calls.cW 17 (fun w=>Kb w g (rowS n pa pc pB)/\AllB w n pa pc pB/\True) func155 rfl rfl rfl (hf0.pers0.and (hf1.pers0.and persT)) (jJ f155 1 [0,2] [vz] (jJ f155 1 [0,2,3] [vz] (aU (jJ f155 3 [2,3,6,7,8] [vs g n n,vn n,vi 0] (aY ?_)))))
 refine oL (σ:=Nat ⊕ (Nat × Nat × (LU) × (Array Value) × Nat)) (fun s=>match s with | Sum.inl i=>[(2,vz),(3,vz),(6,(vs g n n)),(7,(vn n)),(8,(vn i))] | Sum.inr ⟨i,q,X,_,κ⟩=>[(2,vz),(3,(vs q X.length κ)),(6,(vs g n n)),(7,(vn n)),(8,(vn i))]) (fun s=>match s with | Sum.inl _=>[] | Sum.inr ⟨_,q,_,C,_⟩=>[(q,(cL C 5))]) (fun s=>match s with | Sum.inl i=>n-i | Sum.inr ⟨i,_,_,_,_⟩=>n-i)
  (fun s=>match s with | Sum.inl i=>(i<=n)/\(i=0) | Sum.inr ⟨i,_,X,C,κ⟩=>(i<=n)/\(X=xI pB i)/\(Hd C X)/\(C.size=κ)/\(X.length<=κ)) (Sum.inl 0) (⟨Nat.zero_le _,rfl⟩) [] ?_
 rintro (i | ⟨i,q,X,C,κ⟩)
 ·rintro ⟨hi,h0i⟩
  refine jJ f155 1 [2,3,6,7,8,9] [.bool (decide ((i:Int)<(n:Int)))] (aU (oC (decide ((i:Int)<(n:Int))) (fun b1=>?_) (fun b1=>?_)))
  ·rw [b1]
   have:=yT b1
   refine dM (aI (aU (aY (pO f155 3 [2,3,5,6,7,8] [] (let qa:Value:=.slice (pa i) (pB i).length (pc i);[jp g i,qa,qa]) [] (qSc (idx_rowS (g:=g) (c:=n) (k:=.i64) underlying123 sizeOf22 (show (i:Int)=(i:Int) from rfl) (show i<n from om))<|qFc (v:=fun r=>(.slice (pa i) (pB i).length (pc i))) (fun hG=>ld_blk (off:=i) isAgg22 hG.fn.1 (rowS_get om))<|jX 1) (rS f155 4 [2,3,6,7,8] [] (fun r=>let qa:=vs (nb r 2) (pB i).length ((pB i).length+vI r 2);[vz,.slice (pa i) (pB i).length (pc i),qa,qa]) (fun r=>[(2,(nw r 2 (cL ((bs (pB i)).toArray++zB (vI r 2)) 5)))]) (jY 2<|cX (qN (fun _ ζ=>(vs (ζ.headD 0) (pB i).length ((pB i).length+ζ.tail.headD 0))) (fun _ ζ=>(cL ((bs (pB i)).toArray++zB (ζ.tail.headD 0)) 5)) (fun _ _ _ hG=>app_nilL (ty:=22) underlying22 u8i (Bs.src (tx:=22) underlying22 (hG.fn.2.1 i om)) (by rw [h0i];exact h0) (by have h1:=(catB_next pB (show i<n by omega));omega)))<|jX 1) (fun r6=>bK (aI (vY f155 2 [2,3,6,7,8] [] [vn (i+1),vn (i+1)] [] (pM (dE i 1 om)<|jX 1) (?_)))))))))
   exact mN (Sum.inr (i+1,nb r6 2,pB i,(bs (pB i)).toArray++zB (vI r6 2),(pB i).length+vI r6 2)) (by show n-(i+1)<n-i;omega) (⟨om,(by rw [h0i];rfl),Hd.fresh _ _,fresh_size _ _,Nat.le_add_right _ _⟩) []
  rw [b1]
  refine eF (aO (aO (bU (aI (jJ f155 2 [2] [vz,vz] (gQ (mD [(2,vz)] [] ?_)))))))
  exact mR (v:=vz) (fun _ hS=>⟨none,0,congrArg Ending.returned (by rw [<- (show ([]:LU)=xI pB n by rw [show n=0 by have:=yF b1;omega];rfl)];rfl),hS.bel,fs_eq (show ([]:LU)=xI pB n by rw [show n=0 by have:=yF b1;omega];rfl) Fs.nil⟩)
 rintro ⟨hi,hX,hC,hs,hle⟩
 refine jJ f155 1 [2,3,6,7,8,9] [.bool (decide ((i:Int)<(n:Int)))] (aU (oC (decide ((i:Int)<(n:Int))) (fun b2=>?_) (fun b2=>?_)))
 ·rw [b2]
  have:=yT b2
  refine dM (aI (aU (aY (pO f155 3 [2,3,5,6,7,8] [] (let qa:Value:=.slice (pa i) (pB i).length (pc i);[jp g i,qa,qa]) [] (qSc (idx_rowS (g:=g) (c:=n) (k:=.i64) underlying123 sizeOf22 (show (i:Int)=(i:Int) from rfl) (show i<n from om))<|qFc (v:=fun r=>(.slice (pa i) (pB i).length (pc i))) (fun hG=>ld_blk (off:=i) isAgg22 hG.fn.1 (rowS_get om))<|jX 1) (?_)))))
  rcases jO (decide (X.length+(pB i).length<=κ)) with b3 | b3
  ·refine vY f155 4 [2,3,6,7,8] [] (let qa:=vs q (X++(pB i)).length κ;[vs q X.length κ,.slice (pa i) (pB i).length (pc i),qa,qa]) [(2,(oK 0 q (cL (inpl C X.length (bs (pB i))) 5)))] (jY 2<|cX (o_put1 _ 0 (fun _=>do pure (Next.value (<- Builtin.append_ #[22,22] 22 #[vs q X.length κ,.slice (pa i) (pB i).length (pc i)]))) (fun _=>q) (fun _=>(cL C 5)) (fun _=>(cL (inpl C X.length (bs (pB i))) 5)) (fun _=>(vs q (X++(pB i)).length κ)) (fun _=>kr) (fun _=>kr) (fun _=>kr) (fun _=>kr) tV (fun _ _ _ hG hg=>qH underlying22 u8i hg (Bs.src (tx:=22) underlying22 (hG.fn.2.1 i (oA (yT b3)))) hs (yT b3)))<|jX 1) (bK (aI (vY f155 2 [2,3,6,7,8] [] [vn (i+1),vn (i+1)] [] (pM (dE i 1 (oA (yT b3)))<|jX 1) (?_))))
   exact mN (Sum.inr (i+1,q,X++(pB i),inpl C X.length (bs (pB i)),κ)) (by show n-(i+1)<n-i;have:=yT b3;omega) (⟨(oA (yT b3)),(by rw [hX];rfl),Hd.inpl hC rfl,(qL _ _ _ (room_le hs (yT b3))).trans hs,uX (yT b3)⟩) []
  refine rS f155 4 [2,3,6,7,8] [0,1] (fun r=>let qa:=vs (nb r 2) (X++(pB i)).length ((X++(pB i)).length+vI r 2);[vs q X.length κ,.slice (pa i) (pB i).length (pc i),qa,qa]) (fun r=>[(2,(nw r 2 (cL (grow C X.length (bs (pB i)) (vI r 2)) 5)))]) (jY 2<|cX (qN (fun _ ζ=>(vs (ζ.headD 0) (X++(pB i)).length ((X++(pB i)).length+ζ.tail.headD 0))) (fun _ ζ=>(cL (grow C X.length (bs (pB i)) (ζ.tail.headD 0)) 5)) (fun _ _ _ hG=>uI (ty:=22) underlying22 u8i (hG.kn (g:=q) (o:=(cL C 5)) 0) (Bs.src (tx:=22) underlying22 (hG.fn.2.1 i (oA (yF b3)))) hs hle (Nat.lt_of_not_le (yF b3)) (by have h1:=(catB_next pB (show i<n by have:=yF b3;omega));rw [<- hX] at h1;exact Nat.le_trans h1 hl)))<|jX 1) (fun r13=>bK (aI (vY f155 2 [2,3,6,7,8] [] [vn (i+1),vn (i+1)] [] (pM (dE i 1 (oA (yF b3)))<|jX 1) (?_))))
  exact mN (Sum.inr (i+1,nb r13 2,X++(pB i),grow C X.length (bs (pB i)) (vI r13 2),(X++(pB i)).length+vI r13 2)) (by show n-(i+1)<n-i;have:=yF b3;omega) (⟨(oA (yF b3)),(by rw [hX];rfl),Hd.grow hC rfl,qW hC,Nat.le_add_right _ _⟩) []
 rw [b2]
 have zh1:X=xI pB n:=hX.trans (by rw [show i=n by have:=yF b2;omega])
 refine eF (aO (aO (bU (aI (jJ f155 2 [2] [vs q X.length κ,vs q X.length κ] (gQ (mD [(2,(vs q X.length κ))] [(q,(cL C 5))] ?_)))))))
 exact mR (v:=(vs q X.length κ)) (fun _ hS=>⟨some ⟨q,0,none⟩,κ,congrArg Ending.returned (by rw [<- zh1]),hS.bel,fs_eq zh1 (hS.fresh (.head _) hC hle (by rw [hX];exact Nat.le_trans (catB_le pB hi) hl))⟩)
theorem shrow2_any (g:Nat) (a0:OA) (c0:Nat) (B0:LU) (a1:OA) (c1:Nat) (B1:LU) (hl:B0.length+B1.length<=140737488351232) (h0:0<B0.length) (w0:World) (hf0:Kb w0 g #[.slice a0 B0.length c0,.slice a1 B1.length c1]) (hf1:Bs w0 a0 c0 B0) (hf2:Bs w0 a1 c1 B1):Calls prog 155 #[.slice (some ⟨g,0,none⟩) 2 2] w0 (fun ε w'=>∃ α κ,ε=.returned (.slice α (B0++B1).length κ)/\jG w0 w'/\Fs w0 w' α κ (B0++B1)):=shrow_any g 2 (fun k=>[a0,a1].getD k none) (fun k=>[c0,c1].getD k 0) (fun k=>[B0,B1].getD k []) dC (by show (([]++B0)++B1).length<=_;simp only [List.length_append,List.length_nil];omega) h0 w0 hf0 (allB2 hf1 hf2)
theorem rotl_any (x:Nat) (n:Nat) (hx:x<4294967296) (hn:0<n/\n<32) (w0:World):Calls prog 257 #[vu x,vi (0-(n:Int))] w0 (jR (vu (aA x n)) w0):=by
 refine Calls.cW 17 (fun _=>True) func257 rfl rfl rfl jT (jJ f257 1 [0,1,4] [.int .u32 0] (pO f257 4 [0,4,5] [] [vi (0-(n:Int)),vx (18446744073709551616-n),vx (32-n),vx (32-n)] [] (jY 1<|kE (vx (18446744073709551616-n)) (congrArg (Value.int .u64) (u64_neg hn.1 hn.2))<|kE (vx (32-n)) (congrArg (Value.int .u64) (and31 hn.1 hn.2))<|jX 1) (pO f257 9 [4] [] [vu x,vx (32-n),vu (x*2^(32-n)%4294967296),vu x,vx (32-n),vx n,vu (x / 2^n),vu (aA x n),vu (aA x n)] [] (jY 2<|cB (a:=fun r=>(vu x)) (b:=fun r=>(vx (32-n))) (v:=fun r=>(vu (x*2^(32-n)%4294967296))) .shl 24 (fun _ w=>run_shlM om w)<|jY 2<|kE (vx n) (congrArg (Value.int .u64) (u64_32 hn.1 hn.2))<|cB (a:=fun r=>(vu x)) (b:=fun r=>(vx n)) (v:=fun r=>(vu (x / 2^n))) .shr 24 (fun _ w=>iG (k:=.u32) hx w)<|kE (vu (aA x n)) (jN (or_rot hx))<|jX 1) (gQ ?_))))
 exact mR (v:=(vu (aA x n))) (fun _ hS=>⟨rfl,hS.bel⟩)
theorem kV (x:Nat) (n:Nat) (hx:x<4294967296) (hn:0<n/\n<32) (w0:World):Calls prog 212 #[vu x,vn n] w0 (jR (vu (aA x n)) w0):=by
 refine Calls.cW 9 (fun _=>True) func212 rfl rfl rfl jT (jJ f212 1 [0,1,4] [.int .u32 0] (pO f212 5 [4] [] [vu x,vn n,vi (0-(n:Int)),vu (aA x n),vu (aA x n)] [] (jY 2<|jUi (0-(n:Int)) om<|cCc (rotl_any x n hx hn)<|jX 1) (gQ ?_)))
 exact mR (v:=(vu (aA x n))) (fun _ hS=>⟨rfl,hS.bel⟩)
theorem zrow_sc (X:LU):bG .u32 64 (fun _=>0)=bG .u32 64 (sc X 0 0):=gX fun m _=>(sc_zero X m).symm
theorem sched_any (X:LU) (hX:X.length=64) (w0:World):Calls prog 211 #[.agg (bs X).toArray] w0 (jR (.agg (bG .u32 64 (wN X))) w0):=by
 refine Calls.cW 85 (fun _=>True) func211 rfl rfl rfl jT (sS f211 2 [1,2] [] (fun r=>[pt (nb r 0),pt (nb r 1)]) (fun r=>[(0,(nw r 0 (cL (bs X).toArray 247))),(1,(nw r 1 (cL (bG .u32 64 (fun _=>0)) 285)))]) (jX 2) (fun r1=>sS f211 1 [1,2,3] [] (fun r=>[pt (nb r 0)]) (fun r=>[(0,(nw r 0 (cL (bG .u32 64 (fun _=>0)) 285)))]) (jX 1) (fun r2=>aU (jJ f211 1 [1,2,3,9] [vi 0] (aY ?_)))))
 refine oL (σ:=Nat × (Array Value)) (fun ⟨i,_⟩=>[(1,(pt (nb r1 0))),(2,(pt (nb r1 1))),(3,(pt (nb r2 0))),(9,(vn i))]) (fun ⟨_,C⟩=>[(nb r1 0,(cL (bs X).toArray 247)),(nb r1 1,(cL (bG .u32 64 (fun _=>0)) 285)),(nb r2 0,(cL C 285))]) (fun ⟨i,_⟩=>16-i)
  (fun ⟨i,C⟩=>(i<=16)/\(C=bG .u32 64 (sc X i 0))) (0,bG .u32 64 (fun _=>0)) (⟨by decide,zrow_sc X⟩) [] ?_
 rintro ⟨i,C⟩ ⟨hi,hC⟩
 refine jJ f211 1 [1,2,3,9,10] [.bool (decide ((i:Int)<16))] (aU (oC (decide ((i:Int)<16)) (fun h1=>?_) (fun h1=>?_)))
 ·rw [h1]
  have:=yT h1
  refine dM (aI (aU (aY (jJ f211 2 [1,2,3,4,9] [vn i,vn i] (jJ f211 1 [1,2,3,4,9,12] [vi 0] (aY ?_))))))
  refine oL (σ:=Nat × (Array Value)) (fun ⟨j,_⟩=>[(1,(pt (nb r1 0))),(2,(pt (nb r1 1))),(3,(pt (nb r2 0))),(4,(vn i)),(9,(vn i)),(12,(vn j))]) (fun ⟨_,C2⟩=>[(nb r1 0,(cL (bs X).toArray 247)),(nb r1 1,(cL (bG .u32 64 (fun _=>0)) 285)),(nb r2 0,(cL C2 285))]) (fun ⟨j,_⟩=>4-j)
   (fun ⟨j,C2⟩=>(j<=4)/\(C2=bG .u32 64 (sc X i j))) (0,C) (⟨by decide,hC⟩) [] ?_
  rintro ⟨j,C2⟩ ⟨hj,hC2⟩
  refine jJ f211 1 [1,2,3,4,9,12,13] [.bool (decide ((j:Int)<4))] (aU (oC (decide ((j:Int)<4)) (fun h2=>?_) (fun h2=>?_)))
  ·rw [h2]
   have:=yT h2
   refine dM (aI (aU (aY (jJ f211 2 [1,2,3,4,5,9,12] [vn j,vn j] (rDc f211 [0,0,2,6,14,0,32,0,224,480,992,2016,4094,8191,16383] 15 [1,2,3,4,9,12] [] [vn i,vn i,jp (nb r2 0) i,vu (yI X i j),vu (yI X i j*256),vn i,vn (4*i),vn j,vn ((4*i)+j),jp (nb r1 0) ((4*i)+j),vy (gB X ((4*i)+j)),vu (gB X ((4*i)+j)),vu (yI X i (j+1)),jp (nb r2 0) i,undef] [(14,(oK 2 (nb r2 0) (cL (C2.setIfInBounds i (vu (yI X i (j+1)))) 285)))] (jY 2<|oW (Instr.indexAt 285 (pt (nb r2 0)) (vn i)) (jp (nb r2 0) i) (aC (n:=(i:Int)) (i:=i) underlying285 sizeOf24 om)<|lG 2 24 (nb r2 0) i C2 285 (vu (yI X i j)) isAgg24 (by rw [hC2,nX om,sc_at])<|cB (a:=fun r=>(vu (yI X i j))) (b:=fun r=>(.int .u64 8)) (v:=fun r=>(vu (yI X i j*256))) .shl 24 (fun _ w=>run_pw8 om w)<|jY 1<|pM (gU 4 i om)<|jY 1<|pM (dE (4*i) j om)<|oW (Instr.indexAt 247 (pt (nb r1 0)) (vn ((4*i)+j))) (jp (nb r1 0) ((4*i)+j)) (aC (n:=(((4*i)+j:Nat):Int)) (i:=(4*i)+j) underlying247 sizeOf5 om)<|lG 0 5 (nb r1 0) ((4*i)+j) ((bs X).toArray) 247 (vy (gB X ((4*i)+j))) isAgg5 (yP (by rw [hX];omega))<|cA (v:=fun r=>(.int .u32 (IntKind.u32.wrap (gB X ((4*i)+j):Int)))) (fun _=>(vu (gB X ((4*i)+j)))) (fun _=>jN (u32N (Nat.lt_of_lt_of_le (iU _ _) dC)))<|cA (v:=fun r=>(.int .u32 (bits .or .u32 ((yI X i j*256:Nat):Int) (gB X ((4*i)+j):Int)))) (fun _=>(vu (yI X i (j+1)))) (fun _=>jN (or_pw om))<|oW (Instr.indexAt 285 (pt (nb r2 0)) (vn i)) (jp (nb r2 0) i) (aC (n:=(i:Int)) (i:=i) underlying285 sizeOf24 om)<|oStc 2 24 (nb r2 0) i C2 (C2.setIfInBounds i (vu (yI X i (j+1)))) 285 (vu (yI X i (j+1))) sizeOf24 (by rw [hC2,dX];omega) rfl<|cN) (bK (aI (vY f211 2 [1,2,3,4,9,12] [] [vn (j+1),vn (j+1)] [] (pM (dE j 1 om)<|jX 1) (?_)))))))))
   exact mN (j+1,C2.setIfInBounds i (vu (yI X i (j+1)))) (by show 4-(j+1)<4-j;omega) (⟨om,by rw [hC2];exact sc_set⟩) []
  rw [h2]
  have:=yF h2
  refine eF (aO (aO (bU (bK (aI (vY f211 2 [1,2,3,9] [] [vn (i+1),vn (i+1)] [] (pM (dE i 1 om)<|jX 1) (?_)))))))
  exact mN (i+1,C2) (by show 16-(i+1)<16-i;omega) (⟨om,hC2.trans (by rw [show j=4 by omega];exact sc_next X i)⟩) []
 rw [h1]
 have:=yF h1
 refine eF (aO (aO (bU (aI (aU (jM f211 1 [2,3,6] [0,1,1] [vi 16] [[]] (aY ?_)))))))
 refine oL (σ:=Nat × (Array Value)) (fun ⟨k,_⟩=>[(2,(pt (nb r1 1))),(3,(pt (nb r2 0))),(6,(vn k))]) (fun ⟨_,C3⟩=>[(nb r1 1,(cL (bG .u32 64 (fun _=>0)) 285)),(nb r2 0,(cL C3 285))]) (fun ⟨k,_⟩=>64-k)
  (fun ⟨k,C3⟩=>(16<=k/\k<=64)/\(C3=bG .u32 64 (tc X k))) (16,C) (⟨by decide,hC.trans (by rw [show i=16 by omega];exact sc_tc X)⟩) [] ?_
 rintro ⟨k,C3⟩ ⟨hk,hC3⟩
 refine aU (jJ f211 2 [2,3,6,32] [vn k,.bool (decide ((k:Int)<64))] (oC (decide ((k:Int)<64)) (fun h3=>?_) (fun h3=>?_)))
 ·rw [h3]
  have:=yT h3
  refine dM (aI (aU (aY (sDc f211 [0,1,3,7,15,0,32,96,224,511,1023,0,2048,6144,14336,30720,65535,131071] 18 [2,3,6,7] [] (let qa:=vu (((aA (wN X (k-15)) 7)^^^(aA (wN X (k-15)) 18))^^^((wN X (k-15)) / 2^3));let qb:=vi ((k:Int)-15);[vn k,qb,jp (nb r2 0) (k-15),vu (wN X (k-15)),vu (aA (wN X (k-15)) 7),vn k,qb,jp (nb r2 0) (k-15),vu (wN X (k-15)),vu (aA (wN X (k-15)) 18),vu ((aA (wN X (k-15)) 7)^^^(aA (wN X (k-15)) 18)),vn k,qb,jp (nb r2 0) (k-15),vu (wN X (k-15)),vu ((wN X (k-15)) / 2^3),qa,qa]) [] (jY 1<|jUi ((k:Int)-15) om<|oW (Instr.indexAt 285 (pt (nb r2 0)) (vi ((k:Int)-15))) (jp (nb r2 0) (k-15)) (aC (n:=(k:Int)-15) (i:=k-15) underlying285 sizeOf24 om)<|lG 1 24 (nb r2 0) (k-15) C3 285 (vu (wN X (k-15))) isAgg24 (by rw [hC3];exact kG om om)<|cC (f:=212) (args:=fun r=> #[vu (wN X (k-15)),vi 7]) (v:=fun r=>(vu (aA (wN X (k-15)) 7))) (fun _ w=>(fun w=>kV (wN X (k-15)) 7 (fG _ _) dC w) w)<|jY 1<|jUi ((k:Int)-15) om<|oW (Instr.indexAt 285 (pt (nb r2 0)) (vi ((k:Int)-15))) (jp (nb r2 0) (k-15)) (aC (n:=(k:Int)-15) (i:=k-15) underlying285 sizeOf24 om)<|lG 1 24 (nb r2 0) (k-15) C3 285 (vu (wN X (k-15))) isAgg24 (by rw [hC3];exact kG om om)<|cC (f:=212) (args:=fun r=> #[vu (wN X (k-15)),vi 18]) (v:=fun r=>(vu (aA (wN X (k-15)) 18))) (fun _ w=>(fun w=>kV (wN X (k-15)) 18 (fG _ _) dC w) w)<|cA (v:=fun r=>(.int .u32 (bits .xor .u32 (aA (wN X (k-15)) 7:Int) (aA (wN X (k-15)) 18:Int)))) (fun _=>(vu ((aA (wN X (k-15)) 7)^^^(aA (wN X (k-15)) 18)))) (fun _=>jN (jL (bF _ (fG _ _)) (bF _ (fG _ _))))<|jY 1<|jUi ((k:Int)-15) om<|oW (Instr.indexAt 285 (pt (nb r2 0)) (vi ((k:Int)-15))) (jp (nb r2 0) (k-15)) (aC (n:=(k:Int)-15) (i:=k-15) underlying285 sizeOf24 om)<|lG 1 24 (nb r2 0) (k-15) C3 285 (vu (wN X (k-15))) isAgg24 (by rw [hC3];exact kG om om)<|cB (a:=fun r=>(vu (wN X (k-15)))) (b:=fun r=>(.int .u64 3)) (v:=fun r=>(vu ((wN X (k-15)) / 2^3))) .shr 24 (fun _ w=>iG (k:=.u32) (x:=(wN X (k-15))) (c:=3) (fG _ _) w)<|cA (v:=fun r=>(.int .u32 (bits .xor .u32 (((aA (wN X (k-15)) 7)^^^(aA (wN X (k-15)) 18):Nat):Int) (((wN X (k-15)) / 2^3:Nat):Int)))) (fun _=>(vu (((aA (wN X (k-15)) 7)^^^(aA (wN X (k-15)) 18))^^^((wN X (k-15)) / 2^3)))) (fun _=>jN (jL (kT (bF _ (fG _ _)) (bF _ (fG _ _))) (qG _ (fG _ _))))<|jX 1) (sDc f211 [0,1,3,7,15,0,32,96,224,511,1023,0,2048,6144,14336,30720,65535,131071] 18 [2,3,6,7,8] [] (let qa:=vu (((aA (wN X (k-2)) 17)^^^(aA (wN X (k-2)) 19))^^^((wN X (k-2)) / 2^10));let qb:=vi ((k:Int)-2);[vn k,qb,jp (nb r2 0) (k-2),vu (wN X (k-2)),vu (aA (wN X (k-2)) 17),vn k,qb,jp (nb r2 0) (k-2),vu (wN X (k-2)),vu (aA (wN X (k-2)) 19),vu ((aA (wN X (k-2)) 17)^^^(aA (wN X (k-2)) 19)),vn k,qb,jp (nb r2 0) (k-2),vu (wN X (k-2)),vu ((wN X (k-2)) / 2^10),qa,qa]) [] (jY 1<|jUi ((k:Int)-2) om<|oW (Instr.indexAt 285 (pt (nb r2 0)) (vi ((k:Int)-2))) (jp (nb r2 0) (k-2)) (aC (n:=(k:Int)-2) (i:=k-2) underlying285 sizeOf24 om)<|lG 1 24 (nb r2 0) (k-2) C3 285 (vu (wN X (k-2))) isAgg24 (by rw [hC3];exact kG om om)<|cC (f:=212) (args:=fun r=> #[vu (wN X (k-2)),vi 17]) (v:=fun r=>(vu (aA (wN X (k-2)) 17))) (fun _ w=>(fun w=>kV (wN X (k-2)) 17 (fG _ _) dC w) w)<|jY 1<|jUi ((k:Int)-2) om<|oW (Instr.indexAt 285 (pt (nb r2 0)) (vi ((k:Int)-2))) (jp (nb r2 0) (k-2)) (aC (n:=(k:Int)-2) (i:=k-2) underlying285 sizeOf24 om)<|lG 1 24 (nb r2 0) (k-2) C3 285 (vu (wN X (k-2))) isAgg24 (by rw [hC3];exact kG om om)<|cC (f:=212) (args:=fun r=> #[vu (wN X (k-2)),vi 19]) (v:=fun r=>(vu (aA (wN X (k-2)) 19))) (fun _ w=>(fun w=>kV (wN X (k-2)) 19 (fG _ _) dC w) w)<|cA (v:=fun r=>(.int .u32 (bits .xor .u32 (aA (wN X (k-2)) 17:Int) (aA (wN X (k-2)) 19:Int)))) (fun _=>(vu ((aA (wN X (k-2)) 17)^^^(aA (wN X (k-2)) 19)))) (fun _=>jN (jL (bF _ (fG _ _)) (bF _ (fG _ _))))<|jY 1<|jUi ((k:Int)-2) om<|oW (Instr.indexAt 285 (pt (nb r2 0)) (vi ((k:Int)-2))) (jp (nb r2 0) (k-2)) (aC (n:=(k:Int)-2) (i:=k-2) underlying285 sizeOf24 om)<|lG 1 24 (nb r2 0) (k-2) C3 285 (vu (wN X (k-2))) isAgg24 (by rw [hC3];exact kG om om)<|cB (a:=fun r=>(vu (wN X (k-2)))) (b:=fun r=>(.int .u64 10)) (v:=fun r=>(vu ((wN X (k-2)) / 2^10))) .shr 24 (fun _ w=>iG (k:=.u32) (x:=(wN X (k-2))) (c:=10) (fG _ _) w)<|cA (v:=fun r=>(.int .u32 (bits .xor .u32 (((aA (wN X (k-2)) 17)^^^(aA (wN X (k-2)) 19):Nat):Int) (((wN X (k-2)) / 2^10:Nat):Int)))) (fun _=>(vu (((aA (wN X (k-2)) 17)^^^(aA (wN X (k-2)) 19))^^^((wN X (k-2)) / 2^10)))) (fun _=>jN (jL (kT (bF _ (fG _ _)) (bF _ (fG _ _))) (qG _ (fG _ _))))<|jX 1) (rDc f211 [0,0,2,6,14,0,62,0,128,384,896,2046,0,8190,16383,32767] 16 [2,3,6] [] (let qa:=add32 (wN X (k-16)) (((aA (wN X (k-15)) 7)^^^(aA (wN X (k-15)) 18))^^^((wN X (k-15)) / 2^3));[vn k,vn k,vi ((k:Int)-16),jp (nb r2 0) (k-16),vu (wN X (k-16)),vu (((aA (wN X (k-15)) 7)^^^(aA (wN X (k-15)) 18))^^^((wN X (k-15)) / 2^3)),vu qa,vn k,vi ((k:Int)-7),jp (nb r2 0) (k-7),vu (wN X (k-7)),vu (add32 qa (wN X (k-7))),vu (((aA (wN X (k-2)) 17)^^^(aA (wN X (k-2)) 19))^^^((wN X (k-2)) / 2^10)),vu (add32 (add32 qa (wN X (k-7))) (((aA (wN X (k-2)) 17)^^^(aA (wN X (k-2)) 19))^^^((wN X (k-2)) / 2^10))),jp (nb r2 0) k,undef]) [(15,(oK 1 (nb r2 0) (cL (C3.setIfInBounds k (vu (add32 (add32 (add32 (wN X (k-16)) (((aA (wN X (k-15)) 7)^^^(aA (wN X (k-15)) 18))^^^((wN X (k-15)) / 2^3))) (wN X (k-7))) (((aA (wN X (k-2)) 17)^^^(aA (wN X (k-2)) 19))^^^((wN X (k-2)) / 2^10))))) 285)))] (jY 2<|jUi ((k:Int)-16) om<|oW (Instr.indexAt 285 (pt (nb r2 0)) (vi ((k:Int)-16))) (jp (nb r2 0) (k-16)) (aC (n:=(k:Int)-16) (i:=k-16) underlying285 sizeOf24 om)<|lG 1 24 (nb r2 0) (k-16) C3 285 (vu (wN X (k-16))) isAgg24 (by rw [hC3];exact kG om om)<|jY 1<|kE (vu (add32 (wN X (k-16)) (((aA (wN X (k-15)) 7)^^^(aA (wN X (k-15)) 18))^^^((wN X (k-15)) / 2^3)))) (jN (aQ (wN X (k-16)) (((aA (wN X (k-15)) 7)^^^(aA (wN X (k-15)) 18))^^^((wN X (k-15)) / 2^3))))<|jY 1<|jUi ((k:Int)-7) om<|oW (Instr.indexAt 285 (pt (nb r2 0)) (vi ((k:Int)-7))) (jp (nb r2 0) (k-7)) (aC (n:=(k:Int)-7) (i:=k-7) underlying285 sizeOf24 om)<|lG 1 24 (nb r2 0) (k-7) C3 285 (vu (wN X (k-7))) isAgg24 (by rw [hC3];exact kG om om)<|kE (vu (add32 (add32 (wN X (k-16)) (((aA (wN X (k-15)) 7)^^^(aA (wN X (k-15)) 18))^^^((wN X (k-15)) / 2^3))) (wN X (k-7)))) (jN (aQ (add32 (wN X (k-16)) (((aA (wN X (k-15)) 7)^^^(aA (wN X (k-15)) 18))^^^((wN X (k-15)) / 2^3))) (wN X (k-7))))<|jY 1<|kE (vu (add32 (add32 (add32 (wN X (k-16)) (((aA (wN X (k-15)) 7)^^^(aA (wN X (k-15)) 18))^^^((wN X (k-15)) / 2^3))) (wN X (k-7))) (((aA (wN X (k-2)) 17)^^^(aA (wN X (k-2)) 19))^^^((wN X (k-2)) / 2^10)))) (jN (aQ (add32 (add32 (wN X (k-16)) (((aA (wN X (k-15)) 7)^^^(aA (wN X (k-15)) 18))^^^((wN X (k-15)) / 2^3))) (wN X (k-7))) (((aA (wN X (k-2)) 17)^^^(aA (wN X (k-2)) 19))^^^((wN X (k-2)) / 2^10))))<|oW (Instr.indexAt 285 (pt (nb r2 0)) (vn k)) (jp (nb r2 0) k) (aC (n:=(k:Int)) (i:=k) underlying285 sizeOf24 om)<|oStc 1 24 (nb r2 0) k C3 (C3.setIfInBounds k (vu (add32 (add32 (add32 (wN X (k-16)) (((aA (wN X (k-15)) 7)^^^(aA (wN X (k-15)) 18))^^^((wN X (k-15)) / 2^3))) (wN X (k-7))) (((aA (wN X (k-2)) 17)^^^(aA (wN X (k-2)) 19))^^^((wN X (k-2)) / 2^10))))) 285 (vu (add32 (add32 (add32 (wN X (k-16)) (((aA (wN X (k-15)) 7)^^^(aA (wN X (k-15)) 18))^^^((wN X (k-15)) / 2^3))) (wN X (k-7))) (((aA (wN X (k-2)) 17)^^^(aA (wN X (k-2)) 19))^^^((wN X (k-2)) / 2^10)))) sizeOf24 (by rw [hC3,dX];omega) rfl<|cN) (bK (aI (vY f211 3 [2,3,6] [] [vn k,vn (k+1),vn (k+1)] [] (jY 1<|pM (dE k 1 om)<|jX 1) (?_))))))))))
  exact mN (k+1,C3.setIfInBounds k (vu (add32 (add32 (add32 (wN X (k-16)) (((aA (wN X (k-15)) 7)^^^(aA (wN X (k-15)) 18))^^^((wN X (k-15)) / 2^3))) (wN X (k-7))) (((aA (wN X (k-2)) 17)^^^(aA (wN X (k-2)) 19))^^^((wN X (k-2)) / 2^10))))) (by show 64-(k+1)<64-k;omega) (⟨om,by rw [hC3];exact tc_set (wN_more hk.1).symm⟩) []
 rw [h3]
 refine eF (aO (aO (bU ?_)))
 rw [hC3]
 refine aI (pO f211 2 [2] [1,0] [.agg (bG .u32 64 (tc X k)),undef] [(1,(oK 0 (nb r1 1) (cL (bG .u32 64 (tc X k)) 285)))] (jE [[1],[0]]) (gQ ?_))
 exact mR (v:=(.agg (bG .u32 64 (tc X k)))) (fun _ hS=>⟨congrArg Ending.returned (congrArg Value.agg (tc_end (oA (yF h3)))),hS.bel⟩)
theorem compress_any (s0:Nat) (s1:Nat) (s2:Nat) (s3:Nat) (s4:Nat) (s5:Nat) (s6:Nat) (s7:Nat) (X:LU) (hs:ok8 (s0,s1,s2,s3,s4,s5,s6,s7)) (hX:X.length=64) (w0:World) (hf0:KbK w0):Calls prog 157 #[.agg #[vu s0,vu s1,vu s2,vu s3,vu s4,vu s5,vu s6,vu s7],.agg (bs X).toArray] w0 (jR (.agg #[vu ((eP (s0,s1,s2,s3,s4,s5,s6,s7) X).1),vu ((eP (s0,s1,s2,s3,s4,s5,s6,s7) X).2.1),vu ((eP (s0,s1,s2,s3,s4,s5,s6,s7) X).2.2.1),vu ((eP (s0,s1,s2,s3,s4,s5,s6,s7) X).2.2.2.1),vu ((eP (s0,s1,s2,s3,s4,s5,s6,s7) X).2.2.2.2.1),vu ((eP (s0,s1,s2,s3,s4,s5,s6,s7) X).2.2.2.2.2.1),vu ((eP (s0,s1,s2,s3,s4,s5,s6,s7) X).2.2.2.2.2.2.1),vu ((eP (s0,s1,s2,s3,s4,s5,s6,s7) X).2.2.2.2.2.2.2)]) w0):=by
 refine Calls.cW 131 (fun w=>KbK w/\True) func157 rfl rfl rfl (hf0.pers0.and persT) (sS f157 3 [2,3,4] [] (fun r=>[pt (nb r 0),pt (nb r 1),pt (nb r 2)]) (fun r=>[(0,(nw r 0 (cL #[vu s0,vu s1,vu s2,vu s3,vu s4,vu s5,vu s6,vu s7] 245))),(1,(nw r 1 (cL (bs X).toArray 247))),(2,(nw r 2 (cL #[.int .u32 0,.int .u32 0,.int .u32 0,.int .u32 0,.int .u32 0,.int .u32 0,.int .u32 0,.int .u32 0] 245)))]) (jX 3) (fun r1=>sS f157 4 [2,4,5] [1,0,1,1] (fun r=>[.agg (bs X).toArray,.agg (bG .u32 64 (wN X)),pt (nb r 2),undef]) (fun r=>[(2,(nw r 2 (cL (bG .u32 64 (fun _=>0)) 285))),(3,(oK 19 (nb r 2) (cL (bG .u32 64 (wN X)) 285)))]) (qFc (fun hG=>sW isAgg247 sizeOf247 (hG.kn (g:=nb r1 1) (o:=(cL (bs X).toArray 247)) 1) (by simp [bs,hX]))<|cCc (sched_any X hX)<|jE [[],[19]]) (fun r2=>sDc f157 [0,1,0,4,0,16,0,64,3,271,831,2047] 12 [2,4,5,6,7,8,9] [] [pt (nb r1 0),vu s0,jp (nb r1 0) 1,vu s1,jp (nb r1 0) 2,vu s2,jp (nb r1 0) 3,vu s3,vu s0,vu s1,vu s2,vu s3] [] (jE [[],[0],[],[0],[],[0],[],[0],[],[],[],[]]) (sDc f157 [0,1,0,4,0,16,0,64,3,271,831,2047] 12 [2,4,5,6,7,8,9,10,11,12,13] [] [jp (nb r1 0) 4,vu s4,jp (nb r1 0) 5,vu s5,jp (nb r1 0) 6,vu s6,jp (nb r1 0) 7,vu s7,vu s4,vu s5,vu s6,vu s7] [] (jE [[],[0],[],[0],[],[0],[],[0],[],[],[],[]]) (aU (jJ f157 1 [2,4,5,6,7,8,9,10,11,12,13,35] [vi 0] (aY ?_)))))))
 refine oL (σ:=Nat × Nat × Nat × Nat × Nat × Nat × Nat × Nat × Nat) (fun ⟨i,ra,rb,rc,rd,re,rf,rg,rh⟩=>[(2,(pt (nb r1 0))),(4,(pt (nb r1 2))),(5,(pt (nb r2 2))),(6,(vu ra)),(7,(vu rb)),(8,(vu rc)),(9,(vu rd)),(10,(vu re)),(11,(vu rf)),(12,(vu rg)),(13,(vu rh)),(35,(vn i))]) (fun ⟨_,_,_,_,_,_,_,_,_⟩=>[(nb r1 0,(cL #[vu s0,vu s1,vu s2,vu s3,vu s4,vu s5,vu s6,vu s7] 245)),(nb r1 2,(cL #[.int .u32 0,.int .u32 0,.int .u32 0,.int .u32 0,.int .u32 0,.int .u32 0,.int .u32 0,.int .u32 0] 245)),(nb r2 2,(cL (bG .u32 64 (wN X)) 285))]) (fun ⟨i,_,_,_,_,_,_,_,_⟩=>64-i)
  (fun ⟨i,ra,rb,rc,rd,re,rf,rg,rh⟩=>(i<=64)/\(rnds X (s0,s1,s2,s3,s4,s5,s6,s7) i=(ra,rb,rc,rd,re,rf,rg,rh))) (0,s0,s1,s2,s3,s4,s5,s6,s7) (⟨by decide,rfl⟩) [] ?_
 rintro ⟨i,ra,rb,rc,rd,re,rf,rg,rh⟩ ⟨hi,hr⟩
 have ho:ok8 (ra,rb,rc,rd,re,rf,rg,rh):=hr ▸ rnds_ok hs i
 refine jJ f157 1 [2,4,5,6,7,8,9,10,11,12,13,35,36] [.bool (decide ((i:Int)<64))] (aU (oC (decide ((i:Int)<64)) (fun b1=>?_) (fun b1=>?_)))
 ·rw [b1]
  have:=yT b1
  refine dM (aI (aU (aY (jJ f157 2 [2,4,5,6,7,8,9,10,11,12,13,14,35] [vn i,vn i] (sDc f157 [0,0,2,0,14,30,0,94,254,511,0,0,3072,0,8192,0,57344,130048,262143,0,524288,1572864,4194303,0,8388608,25165824,67108863,134217727] 28 [2,4,5,6,7,8,9,10,11,12,13,15,35] [] (let qa:=add32 (add32 rh (((aA re 6)^^^(aA re 11))^^^(aA re 25))) ((re&&&rf)^^^((dG re)&&&rg));let qb:=vu (add32 (add32 qa (kN i)) (wN X i));[vu rh,vu re,vu (aA re 6),vu re,vu (aA re 11),vu ((aA re 6)^^^(aA re 11)),vu re,vu (aA re 25),vu (((aA re 6)^^^(aA re 11))^^^(aA re 25)),vu (add32 rh (((aA re 6)^^^(aA re 11))^^^(aA re 25))),vu re,vu rf,vu (re&&&rf),vu re,vu (dG re),vu rg,vu ((dG re)&&&rg),vu ((re&&&rf)^^^((dG re)&&&rg)),vu qa,vn i,jp 1 i,vu (kN i),vu (add32 qa (kN i)),vn i,jp (nb r2 2) i,vu (wN X i),qb,qb]) [] (jY 2<|cCc (kV re 6 ho.2.2.2.2.1 dC)<|jY 1<|cCc (kV re 11 ho.2.2.2.2.1 dC)<|cA (v:=fun r=>(.int .u32 (bits .xor .u32 (aA re 6:Int) (aA re 11:Int)))) (fun _=>(vu ((aA re 6)^^^(aA re 11)))) (fun _=>jN (jL (bF _ ho.2.2.2.2.1) (bF _ ho.2.2.2.2.1)))<|jY 1<|cCc (kV re 25 ho.2.2.2.2.1 dC)<|cA (v:=fun r=>(.int .u32 (bits .xor .u32 (((aA re 6)^^^(aA re 11):Nat):Int) (aA re 25:Int)))) (fun _=>(vu (((aA re 6)^^^(aA re 11))^^^(aA re 25)))) (fun _=>jN (jL (kT (bF _ ho.2.2.2.2.1) (bF _ ho.2.2.2.2.1)) (bF _ ho.2.2.2.2.1)))<|kE (vu (add32 rh (((aA re 6)^^^(aA re 11))^^^(aA re 25)))) (jN (aQ rh (((aA re 6)^^^(aA re 11))^^^(aA re 25))))<|jY 2<|kE (vu (re&&&rf)) (jN (vU ho.2.2.2.2.1 ho.2.2.2.2.2.1))<|jY 1<|kE (vu (dG re)) (jN (not_xor32 ho.2.2.2.2.1))<|jY 1<|cA (v:=fun r=>(.int .u32 (bits .and .u32 ((dG re:Nat):Int) (rg:Int)))) (fun _=>(vu ((dG re)&&&rg))) (fun _=>jN (vU (x8 _) ho.2.2.2.2.2.2.1))<|cA (v:=fun r=>(.int .u32 (bits .xor .u32 ((re&&&rf:Nat):Int) (((dG re)&&&rg:Nat):Int)))) (fun _=>(vu ((re&&&rf)^^^((dG re)&&&rg)))) (fun _=>jN (jL (gW _ ho.2.2.2.2.1) (gW _ (x8 _))))<|kE (vu (add32 (add32 rh (((aA re 6)^^^(aA re 11))^^^(aA re 25))) ((re&&&rf)^^^((dG re)&&&rg)))) (jN (aQ (add32 rh (((aA re 6)^^^(aA re 11))^^^(aA re 25))) ((re&&&rf)^^^((dG re)&&&rg))))<|jY 1<|oW (Instr.indexAt 285 (pt 1) (vn i)) (jp 1 i) (aC (n:=(i:Int)) (i:=i) underlying285 sizeOf24 om)<|qFc (v:=fun r=>(vu (kN i))) (fun hG=>ld_blk (off:=i) isAgg24 hG.fn.1 (kC_get om))<|kE (vu (add32 (add32 (add32 rh (((aA re 6)^^^(aA re 11))^^^(aA re 25))) ((re&&&rf)^^^((dG re)&&&rg))) (kN i))) (jN (aQ (add32 (add32 rh (((aA re 6)^^^(aA re 11))^^^(aA re 25))) ((re&&&rf)^^^((dG re)&&&rg))) (kN i)))<|jY 1<|oW (Instr.indexAt 285 (pt (nb r2 2)) (vn i)) (jp (nb r2 2) i) (aC (n:=(i:Int)) (i:=i) underlying285 sizeOf24 om)<|lG 2 24 (nb r2 2) i (bG .u32 64 (wN X)) 285 (vu (wN X i)) isAgg24 (nX om)<|kE (vu (add32 (add32 (add32 (add32 rh (((aA re 6)^^^(aA re 11))^^^(aA re 25))) ((re&&&rf)^^^((dG re)&&&rg))) (kN i)) (wN X i))) (jN (aQ (add32 (add32 (add32 rh (((aA re 6)^^^(aA re 11))^^^(aA re 25))) ((re&&&rf)^^^((dG re)&&&rg))) (kN i)) (wN X i)))<|jX 1) (pO f157 21 [2,4,5,6,7,8,9,10,11,12,13,15,16,35] [] (let qa:=vu (add32 (((aA ra 2)^^^(aA ra 13))^^^(aA ra 22)) (((ra&&&rb)^^^(ra&&&rc))^^^(rb&&&rc)));[vu ra,vu (aA ra 2),vu ra,vu (aA ra 13),vu ((aA ra 2)^^^(aA ra 13)),vu ra,vu (aA ra 22),vu (((aA ra 2)^^^(aA ra 13))^^^(aA ra 22)),vu ra,vu rb,vu (ra&&&rb),vu ra,vu rc,vu (ra&&&rc),vu ((ra&&&rb)^^^(ra&&&rc)),vu rb,vu rc,vu (rb&&&rc),vu (((ra&&&rb)^^^(ra&&&rc))^^^(rb&&&rc)),qa,qa]) [] (jY 1<|cCc (kV ra 2 ho.1 dC)<|jY 1<|cCc (kV ra 13 ho.1 dC)<|cA (v:=fun r=>(.int .u32 (bits .xor .u32 (aA ra 2:Int) (aA ra 13:Int)))) (fun _=>(vu ((aA ra 2)^^^(aA ra 13)))) (fun _=>jN (jL (bF _ ho.1) (bF _ ho.1)))<|jY 1<|cCc (kV ra 22 ho.1 dC)<|cA (v:=fun r=>(.int .u32 (bits .xor .u32 (((aA ra 2)^^^(aA ra 13):Nat):Int) (aA ra 22:Int)))) (fun _=>(vu (((aA ra 2)^^^(aA ra 13))^^^(aA ra 22)))) (fun _=>jN (jL (kT (bF _ ho.1) (bF _ ho.1)) (bF _ ho.1)))<|jY 2<|kE (vu (ra&&&rb)) (jN (vU ho.1 ho.2.1))<|jY 2<|kE (vu (ra&&&rc)) (jN (vU ho.1 ho.2.2.1))<|cA (v:=fun r=>(.int .u32 (bits .xor .u32 ((ra&&&rb:Nat):Int) ((ra&&&rc:Nat):Int)))) (fun _=>(vu ((ra&&&rb)^^^(ra&&&rc)))) (fun _=>jN (jL (gW _ ho.1) (gW _ ho.1)))<|jY 2<|kE (vu (rb&&&rc)) (jN (vU ho.2.1 ho.2.2.1))<|cA (v:=fun r=>(.int .u32 (bits .xor .u32 (((ra&&&rb)^^^(ra&&&rc):Nat):Int) ((rb&&&rc:Nat):Int)))) (fun _=>(vu (((ra&&&rb)^^^(ra&&&rc))^^^(rb&&&rc)))) (fun _=>jN (jL (kT (gW _ ho.1) (gW _ ho.1)) (gW _ ho.2.1)))<|kE (vu (add32 (((aA ra 2)^^^(aA ra 13))^^^(aA ra 22)) (((ra&&&rb)^^^(ra&&&rc))^^^(rb&&&rc)))) (jN (aQ (((aA ra 2)^^^(aA ra 13))^^^(aA ra 22)) (((ra&&&rb)^^^(ra&&&rc))^^^(rb&&&rc))))<|jX 1) (vY f157 20 [2,4,5,6,7,8,9,10,11,12,13,35] [] (let qa:=add32 (add32 (add32 (add32 rh (((aA re 6)^^^(aA re 11))^^^(aA re 25))) ((re&&&rf)^^^((dG re)&&&rg))) (kN i)) (wN X i);let qb:=add32 (((aA ra 2)^^^(aA ra 13))^^^(aA ra 22)) (((ra&&&rb)^^^(ra&&&rc))^^^(rb&&&rc));[vu qa,vu qb,vu (add32 qa qb),vu ra,vu rb,vu rc,vu rd,vu qa,vu (add32 rd qa),vu re,vu rf,vu rg,vu (add32 qa qb),vu ra,vu rb,vu rc,vu (add32 rd qa),vu re,vu rf,vu rg]) [] (jY 2<|kE (vu (add32 (add32 (add32 (add32 (add32 rh (((aA re 6)^^^(aA re 11))^^^(aA re 25))) ((re&&&rf)^^^((dG re)&&&rg))) (kN i)) (wN X i)) (add32 (((aA ra 2)^^^(aA ra 13))^^^(aA ra 22)) (((ra&&&rb)^^^(ra&&&rc))^^^(rb&&&rc))))) (jN (aQ (add32 (add32 (add32 (add32 rh (((aA re 6)^^^(aA re 11))^^^(aA re 25))) ((re&&&rf)^^^((dG re)&&&rg))) (kN i)) (wN X i)) (add32 (((aA ra 2)^^^(aA ra 13))^^^(aA ra 22)) (((ra&&&rb)^^^(ra&&&rc))^^^(rb&&&rc)))))<|jY 5<|kE (vu (add32 rd (add32 (add32 (add32 (add32 rh (((aA re 6)^^^(aA re 11))^^^(aA re 25))) ((re&&&rf)^^^((dG re)&&&rg))) (kN i)) (wN X i)))) (jN (aQ rd (add32 (add32 (add32 (add32 rh (((aA re 6)^^^(aA re 11))^^^(aA re 25))) ((re&&&rf)^^^((dG re)&&&rg))) (kN i)) (wN X i))))<|jX 11) (bK (aI (vY f157 2 [2,4,5,6,7,8,9,10,11,12,13,35] [] [vn (i+1),vn (i+1)] [] (pM (dE i 1 om)<|jX 1) (?_)))))))))))
  exact mN (i+1,add32 (add32 (add32 (add32 (add32 rh (((aA re 6)^^^(aA re 11))^^^(aA re 25))) ((re&&&rf)^^^((dG re)&&&rg))) (kN i)) (wN X i)) (add32 (((aA ra 2)^^^(aA ra 13))^^^(aA ra 22)) (((ra&&&rb)^^^(ra&&&rc))^^^(rb&&&rc))),ra,rb,rc,add32 rd (add32 (add32 (add32 (add32 rh (((aA re 6)^^^(aA re 11))^^^(aA re 25))) ((re&&&rf)^^^((dG re)&&&rg))) (kN i)) (wN X i)),re,rf,rg) (by show 64-(i+1)<64-i;omega) (⟨om,rnds_next hr⟩) []
 rw [b1]
 refine eF (aO (aO (bU (aI (pO f157 34 [4] [0,1,0] [pt (nb r1 0),vu s0,vu ra,vu (add32 s0 ra),jp (nb r1 0) 1,vu s1,vu rb,vu (add32 s1 rb),jp (nb r1 0) 2,vu s2,vu rc,vu (add32 s2 rc),jp (nb r1 0) 3,vu s3,vu rd,vu (add32 s3 rd),jp (nb r1 0) 4,vu s4,vu re,vu (add32 s4 re),jp (nb r1 0) 5,vu s5,vu rf,vu (add32 s5 rf),jp (nb r1 0) 6,vu s6,vu rg,vu (add32 s6 rg),jp (nb r1 0) 7,vu s7,vu rh,vu (add32 s7 rh),.agg #[vu (add32 s0 ra),vu (add32 s1 rb),vu (add32 s2 rc),vu (add32 s3 rd),vu (add32 s4 re),vu (add32 s5 rf),vu (add32 s6 rg),vu (add32 s7 rh)],undef] [(33,(oK 1 (nb r1 2) (cL #[vu (add32 s0 ra),vu (add32 s1 rb),vu (add32 s2 rc),vu (add32 s3 rd),vu (add32 s4 re),vu (add32 s5 rf),vu (add32 s6 rg),vu (add32 s7 rh)] 245)))] (cR [[],[0],[]]<|kE (vu (add32 s0 ra)) (jN (aQ s0 ra))<|cR [[],[0],[]]<|kE (vu (add32 s1 rb)) (jN (aQ s1 rb))<|cR [[],[0],[]]<|kE (vu (add32 s2 rc)) (jN (aQ s2 rc))<|cR [[],[0],[]]<|kE (vu (add32 s3 rd)) (jN (aQ s3 rd))<|cR [[],[0],[]]<|kE (vu (add32 s4 re)) (jN (aQ s4 re))<|cR [[],[0],[]]<|kE (vu (add32 s5 rf)) (jN (aQ s5 rf))<|cR [[],[0],[]]<|kE (vu (add32 s6 rg)) (jN (aQ s6 rg))<|cR [[],[0],[]]<|kE (vu (add32 s7 rh)) (jN (aQ s7 rh))<|jE [[],[1]]) (gQ ?_))))))
 exact mR (v:=(.agg #[vu (add32 s0 ra),vu (add32 s1 rb),vu (add32 s2 rc),vu (add32 s3 rd),vu (add32 s4 re),vu (add32 s5 rf),vu (add32 s6 rg),vu (add32 s7 rh)])) (fun _ hS=>⟨congrArg Ending.returned (by rw [cmp_end hr (show i=64 by have:=yF b1;omega)]),hS.bel⟩)
theorem sum_any (a:OA) (c:Nat) (B:LU) (h0:0<B.length) (hl:B.length+73<=140737488351232) (w0:World) (hf0:Bs w0 a c B) (hf1:KbK w0) (hf2:KbI w0):Calls prog 100 #[.slice a B.length c] w0 (jR (.agg (hB (shaN B))) w0):=by
 refine Calls.cW 48 (fun w=>Bs w a c B/\KbK w/\KbI w/\True) func100 rfl rfl rfl (hf0.pers0.and (hf1.pers0.and (hf2.pers0.and persT))) (sS f100 1 [0,2] [] (fun r=>[pt (nb r 0)]) (fun r=>[(0,(nw r 0 (cL (hB 0) 26)))]) (jX 1) (fun r1=>sSf f100 8 [2,3] [1,0] (fun r=>let qa:Value:=.slice (oa r 6) (B++(aK B.length)).length (nb r 6);[.slice a B.length c,.slice a B.length c,vn B.length,vx B.length,.slice (oa r 4) (aK B.length).length (nb r 4),vs (nb r 5) 2 2,qa,qa]) (fun r=>[(5,(nw r 5 (cL #[.slice a B.length c,.slice (oa r 4) (aK B.length).length (nb r 4)] 22)))]) (fun r=>[(4,fun w=>Fs w0 w (oa r 4) (nb r 4) (aK B.length)),(6,fun w=>Fs w0 w (oa r 6) (nb r 6) (B++(aK B.length)))]) (fun r=>(fun w=>Bs w a c B/\KbK w/\KbI w/\Fs w0 w (oa r 4) (nb r 4) (aK B.length)/\Fs w0 w (oa r 6) (nb r 6) (B++(aK B.length))/\True)) (fun _=>True) (fun _ _ hF hf=>⟨⟨hF.1,hF.2.1,hF.2.2.1,hf 4,hf 6,trivial⟩,trivial⟩) (jY 3<|cA (v:=fun r=>(.int .u64 (IntKind.u64.wrap (B.length:Int)))) (fun _=>(vx B.length)) (fun _=>congrArg (Value.int .u64) (u64N (oB (aN B) (aB B.length))))<|qBc (fun _=>pad_any B.length (oB (aN B) (aB B.length)) _)<|jY 1<|cX (qB (fun r _ w hG=>shrow2_any (nb r 5) a c B (oa r 4) (nb r 4) (aK B.length) (oB (nZ B.length) (aB B.length)) h0 w (Kb.of_block (hG.kn (g:=nb r 5) (o:=(cL #[.slice a B.length c,.slice (oa r 4) (aK B.length).length (nb r 4)] 22)) 41)) hG.fn.1 (show Fs w0 w (oa r 4) (nb r 4) (aK B.length) from (hG.facts 4 rfl).now).1))<|jX 1) (fun r2 _=>sS f100 3 [2,3,4] [] (fun r=>[.agg #[.int .u32 1779033703,.int .u32 3144134277,.int .u32 1013904242,.int .u32 2773480762,.int .u32 1359893119,.int .u32 2600822924,.int .u32 528734635,.int .u32 1541459225],pt (nb r 1),undef]) (fun r=>[(1,(nw r 1 (cL #[.int .u32 0,.int .u32 0,.int .u32 0,.int .u32 0,.int .u32 0,.int .u32 0,.int .u32 0,.int .u32 0] 245))),(2,(oK 9 (nb r 1) (cL #[.int .u32 1779033703,.int .u32 3144134277,.int .u32 1013904242,.int .u32 2773480762,.int .u32 1359893119,.int .u32 2600822924,.int .u32 528734635,.int .u32 1541459225] 245)))]) (qFc (v:=fun r=>(.agg #[.int .u32 1779033703,.int .u32 3144134277,.int .u32 1013904242,.int .u32 2773480762,.int .u32 1359893119,.int .u32 2600822924,.int .u32 528734635,.int .u32 1541459225])) (fun hG=>ld_blkA (off:=0) (vs:=[.int .u32 1779033703,.int .u32 3144134277,.int .u32 1013904242,.int .u32 2773480762,.int .u32 1359893119,.int .u32 2600822924,.int .u32 528734635,.int .u32 1541459225]) isAgg245 sizeOf245 hG.fn.2.2.1 rfl (fun _ _=>by rw [Nat.zero_add];simp))<|jE [[],[9]]) (fun r3=>aU (pO f100 4 [2,3,4,18,19] [] [.slice (oa r2 6) (B++(aK B.length)).length (nb r2 6),vn (B++(aK B.length)).length,vn ((B++(aK B.length)).length / 64),vi 0] [] (jY 2<|cB (a:=fun r=>(vn (B++(aK B.length)).length)) (b:=fun r=>(vi 64)) (v:=fun r=>(vn ((B++(aK B.length)).length / 64))) .quo 3 (fun _ w=>run_quoI (n:=(B++(aK B.length)).length) (d:=64) dC (oB (aN B) (aB B.length)) w)<|jX 1) (aY ?_))))))
 refine oL (σ:=Nat × Nat × Nat × Nat × Nat × Nat × Nat × Nat × Nat) (fun ⟨i,_,_,_,_,_,_,_,_⟩=>[(2,(pt (nb r1 0))),(3,(.slice (oa r2 6) (B++(aK B.length)).length (nb r2 6))),(4,(pt (nb r3 1))),(18,(vn ((B++(aK B.length)).length / 64))),(19,(vn i))]) (fun ⟨_,t0,t1,t2,t3,t4,t5,t6,t7⟩=>[(nb r1 0,(cL (hB 0) 26)),(nb r3 1,(cL #[vu t0,vu t1,vu t2,vu t3,vu t4,vu t5,vu t6,vu t7] 245))]) (fun ⟨i,_,_,_,_,_,_,_,_⟩=>(B++(aK B.length)).length / 64-i)
  (fun ⟨i,t0,t1,t2,t3,t4,t5,t6,t7⟩=>(i<=(B++(aK B.length)).length / 64)/\(rM (B++(aK B.length)) i=(t0,t1,t2,t3,t4,t5,t6,t7))) (0,1779033703,3144134277,1013904242,2773480762,1359893119,2600822924,528734635,1541459225) (⟨Nat.zero_le _,rfl⟩) [] ?_
 rintro ⟨i,t0,t1,t2,t3,t4,t5,t6,t7⟩ ⟨hi,hQ⟩
 refine jJ f100 1 [2,3,4,18,19,20] [.bool (decide ((i:Int)<(((B++(aK B.length)).length / 64:Nat):Int)))] (aU (oC (decide ((i:Int)<(((B++(aK B.length)).length / 64:Nat):Int))) (fun y1=>?_) (fun y1=>?_)))
 ·rw [y1]
  have:=yT y1
  refine dM (aI (aU (aY (jJ f100 2 [2,3,4,5,18,19] [vn i,vn i] (rDf f100 [0,0,0,4,14,30,62,127,255] 9 [2,3,4,18,19] [] (fun _=>let qa:=eP (t0,t1,t2,t3,t4,t5,t6,t7) ((mid (B++(aK B.length)) (64*i) (B++(aK B.length)).length).take 64);let qb:=mid (B++(aK B.length)) (64*i) (B++(aK B.length)).length;[.agg #[vu t0,vu t1,vu t2,vu t3,vu t4,vu t5,vu t6,vu t7],.slice (oa r2 6) (B++(aK B.length)).length (nb r2 6),vn i,vn (64*i),.slice (wB (oa r2 6) (64*i) (nb r2 6)) qb.length ((nb r2 6)-(64*i)),.pointer (wB (oa r2 6) (64*i) (nb r2 6)),.agg (bs (qb.take 64)).toArray,.agg #[vu (qa.1),vu (qa.2.1),vu (qa.2.2.1),vu (qa.2.2.2.1),vu (qa.2.2.2.2.1),vu (qa.2.2.2.2.2.1),vu (qa.2.2.2.2.2.2.1),vu (qa.2.2.2.2.2.2.2)],undef]) (fun _=>let qa:=eP (t0,t1,t2,t3,t4,t5,t6,t7) ((mid (B++(aK B.length)) (64*i) (B++(aK B.length)).length).take 64);[(8,(oK 1 (nb r3 1) (cL #[vu (qa.1),vu (qa.2.1),vu (qa.2.2.1),vu (qa.2.2.2.1),vu (qa.2.2.2.2.1),vu (qa.2.2.2.2.2.1),vu (qa.2.2.2.2.2.2.1),vu (qa.2.2.2.2.2.2.2)] 245)))]) (fun _=>[(4,fun w=>Bs w (wB (oa r2 6) (64*i) (nb r2 6)) ((nb r2 6)-(64*i)) (mid (B++(aK B.length)) (64*i) (B++(aK B.length)).length))]) (fun _=>(fun w=>Bs w a c B/\KbK w/\KbI w/\Fs w0 w (oa r2 4) (nb r2 4) (aK B.length)/\Fs w0 w (oa r2 6) (nb r2 6) (B++(aK B.length))/\Bs w (wB (oa r2 6) (64*i) (nb r2 6)) ((nb r2 6)-(64*i)) (mid (B++(aK B.length)) (64*i) (B++(aK B.length)).length)/\True)) (fun _=>True) (fun _ _ hF hf=>⟨⟨hF.1,hF.2.1,hF.2.2.1,hF.2.2.2.1,hF.2.2.2.2.1,hf 4,trivial⟩,trivial⟩) (cR [[1],[],[]]<|pM (gU 64 i (oB (aN B) (aB B.length)))<|cX (jF (fun _=>Instr.sliceAt 22 (.slice (oa r2 6) (B++(aK B.length)).length (nb r2 6)) (some (vn (64*i))) none none) (fun _=>(.slice (wB (oa r2 6) (64*i) (nb r2 6)) (mid (B++(aK B.length)) (64*i) (B++(aK B.length)).length).length ((nb r2 6)-(64*i)))) (fun _ _ _ hG=>slice_bytes (l:=64*i) (k:=(B++(aK B.length)).length) underlying22 u8i hG.fn.2.2.2.2.1.1 rfl (Or.inr (congrArg (fun z=>some (Value.int .i64 z)) (rfl))) (Or.inl ⟨rfl,rfl⟩) (oB (aN B) (aB B.length)) (Nat.le_refl _)) (fun _ _ w hG=>hG.facts0.mono (fun _ hF=>hF.2.2.2.2.1.1.mid (oB (aN B) (aB B.length)) (Nat.le_refl _))))<|cX (jF (fun _=>Instr.arrayAt 247 (.slice (wB (oa r2 6) (64*i) (nb r2 6)) (mid (B++(aK B.length)) (64*i) (B++(aK B.length)).length).length ((nb r2 6)-(64*i)))) (fun _=>(.pointer (wB (oa r2 6) (64*i) (nb r2 6)))) (fun _ _ _ _=>arr_bytes underlying247 (by rw [iZ _ _ _ (Nat.le_refl _)];have:=aN B;have:=aB B.length;omega)) (fun _ _ _ _=>persT))<|cX (qF (fun _ _ w hG=>ld_arr isAgg247 sizeOf247 (show Bs w (wB (oa r2 6) (64*i) (nb r2 6)) ((nb r2 6)-(64*i)) (mid (B++(aK B.length)) (64*i) (B++(aK B.length)).length) from (hG.facts 4 rfl).now) (by rw [iZ _ _ _ (Nat.le_refl _)];have:=aN B;have:=aB B.length;omega) dC))<|qCc (fun hG=>compress_any t0 t1 t2 t3 t4 t5 t6 t7 ((mid (B++(aK B.length)) (64*i) (B++(aK B.length)).length).take 64) (hQ ▸ uU (B++(aK B.length)) i) (by rw [List.length_take,iZ _ _ _ (Nat.le_refl _)];have:=aN B;have:=aB B.length;omega) _ hG.fn.2.1)<|jE [[1]]) (fun _ _=>bK (aI (vY f100 2 [2,3,4,18,19] [] [vn (i+1),vn (i+1)] [] (pM (dE i 1 (oB (aN B) (aB B.length)))<|jX 1) (mt_facts (fun w=>Bs w a c B/\KbK w/\KbI w/\Fs w0 w (oa r2 4) (nb r2 4) (aK B.length)/\Fs w0 w (oa r2 6) (nb r2 6) (B++(aK B.length))/\True) (fun w hF=>⟨hF.1,hF.2.1,hF.2.2.1,hF.2.2.2.1,hF.2.2.2.2.1,trivial⟩) ?_)))))))))
  exact mN (i+1,(eP (t0,t1,t2,t3,t4,t5,t6,t7) ((mid (B++(aK B.length)) (64*i) (B++(aK B.length)).length).take 64)).1,(eP (t0,t1,t2,t3,t4,t5,t6,t7) ((mid (B++(aK B.length)) (64*i) (B++(aK B.length)).length).take 64)).2.1,(eP (t0,t1,t2,t3,t4,t5,t6,t7) ((mid (B++(aK B.length)) (64*i) (B++(aK B.length)).length).take 64)).2.2.1,(eP (t0,t1,t2,t3,t4,t5,t6,t7) ((mid (B++(aK B.length)) (64*i) (B++(aK B.length)).length).take 64)).2.2.2.1,(eP (t0,t1,t2,t3,t4,t5,t6,t7) ((mid (B++(aK B.length)) (64*i) (B++(aK B.length)).length).take 64)).2.2.2.2.1,(eP (t0,t1,t2,t3,t4,t5,t6,t7) ((mid (B++(aK B.length)) (64*i) (B++(aK B.length)).length).take 64)).2.2.2.2.2.1,(eP (t0,t1,t2,t3,t4,t5,t6,t7) ((mid (B++(aK B.length)) (64*i) (B++(aK B.length)).length).take 64)).2.2.2.2.2.2.1,(eP (t0,t1,t2,t3,t4,t5,t6,t7) ((mid (B++(aK B.length)) (64*i) (B++(aK B.length)).length).take 64)).2.2.2.2.2.2.2) (by show (B++(aK B.length)).length / 64-(i+1)<(B++(aK B.length)).length / 64-i;have:=aN B;have:=aB B.length;omega) (⟨(oB (aN B) (aB B.length)),sha_next hQ (oB (aN B) (aB B.length))⟩) []
 rw [y1]
 have:=yF y1
 refine eF (aO (aO (bU (aI (sS f100 1 [2,4,6] [] (fun r=>[pt (nb r 0)]) (fun r=>[(0,(nw r 0 (cL (hB 0) 26)))]) (jX 1) (fun r9=>aU (jJ f100 1 [2,4,6,31] [vi 0] (aY ?_))))))))
 refine oL (σ:=Nat × (Array Value)) (fun ⟨m,_⟩=>[(2,(pt (nb r1 0))),(4,(pt (nb r3 1))),(6,(pt (nb r9 0))),(31,(vn m))]) (fun ⟨_,C⟩=>[(nb r1 0,(cL (hB 0) 26)),(nb r3 1,(cL #[vu t0,vu t1,vu t2,vu t3,vu t4,vu t5,vu t6,vu t7] 245)),(nb r9 0,(cL C 26))]) (fun ⟨m,_⟩=>32-m)
  (fun ⟨m,C⟩=>(m<=32)/\(C=bG .u8 32 (wY (t0,t1,t2,t3,t4,t5,t6,t7) m))) (0,hB 0) (⟨by decide,hB0_row (t0,t1,t2,t3,t4,t5,t6,t7)⟩) [] ?_
 rintro ⟨m,C⟩ ⟨hm,hC⟩
 refine jJ f100 1 [2,4,6,31,32] [.bool (decide ((m:Int)<32))] (aU (oC (decide ((m:Int)<32)) (fun y2=>?_) (fun y2=>?_)))
 ·rw [y2]
  have:=yT y2
  refine dM (aI (aU (aY (jJ f100 2 [2,4,6,7,31] [vn m,vn m] (vY f100 13 [2,4,6,31] [] [vn m,vn m,vn (m / 4),jp (nb r3 1) (m / 4),vu (dY (t0,t1,t2,t3,t4,t5,t6,t7) (m / 4)),vn m,vn (m%4),vn ((m%4)*8),vn (24-m%4*8),vu (dY (t0,t1,t2,t3,t4,t5,t6,t7) (m / 4) / 2^(24-m%4*8)),vy (dY (t0,t1,t2,t3,t4,t5,t6,t7) (m / 4) / 2^(24-m%4*8)%256),jp (nb r9 0) m,undef] [(12,(oK 2 (nb r9 0) (cL (C.setIfInBounds m (vy (dY (t0,t1,t2,t3,t4,t5,t6,t7) (m / 4) / 2^(24-m%4*8)%256))) 26)))] (jY 2<|cB (a:=fun r=>(vn m)) (b:=fun r=>(vi 4)) (v:=fun r=>(vn (m / 4))) .quo 3 (fun _ w=>run_quoI (n:=m) (d:=4) dC (oB (aN B) (aB B.length)) w)<|oW (Instr.indexAt 245 (pt (nb r3 1)) (vn (m / 4))) (jp (nb r3 1) (m / 4)) (aC (n:=((m / 4:Nat):Int)) (i:=m / 4) underlying245 sizeOf24 (oB (aN B) (aB B.length)))<|lG 1 24 (nb r3 1) (m / 4) (#[vu t0,vu t1,vu t2,vu t3,vu t4,vu t5,vu t6,vu t7]) 245 (vu (dY (t0,t1,t2,t3,t4,t5,t6,t7) (m / 4))) isAgg24 (sel_get (oB (aN B) (aB B.length)))<|jY 1<|cB (a:=fun r=>(vn m)) (b:=fun r=>(vi 4)) (v:=fun r=>(vn (m%4))) .rem 3 (fun _ w=>xN (k:=.i64) (n:=m) (d:=4) dC w)<|pM (gU (m%4) 8 (oB (aN B) (aB B.length)))<|jWc (24-(((m%4)*8:Nat):Int)) (24-m%4*8) ((i64N (oB (aN B) (aB B.length))).trans om)<|cB (a:=fun r=>(vu (dY (t0,t1,t2,t3,t4,t5,t6,t7) (m / 4)))) (b:=fun r=>(vn (24-m%4*8))) (v:=fun r=>(vu (dY (t0,t1,t2,t3,t4,t5,t6,t7) (m / 4) / 2^(24-m%4*8)))) .shr 24 (fun _ w=>iG (k:=.u32) (x:=dY (t0,t1,t2,t3,t4,t5,t6,t7) (m / 4)) (c:=24-m%4*8) (sel8_lt (hQ ▸ uU _ i) _) w)<|kE (vy (dY (t0,t1,t2,t3,t4,t5,t6,t7) (m / 4) / 2^(24-m%4*8)%256)) (congrArg (Value.int .u8) (u8M (dY (t0,t1,t2,t3,t4,t5,t6,t7) (m / 4) / 2^(24-m%4*8))))<|oW (Instr.indexAt 26 (pt (nb r9 0)) (vn m)) (jp (nb r9 0) m) (aC (n:=(m:Int)) (i:=m) underlying26 sizeOf5 (oB (aN B) (aB B.length)))<|oStc 2 5 (nb r9 0) m C (C.setIfInBounds m (vy (dY (t0,t1,t2,t3,t4,t5,t6,t7) (m / 4) / 2^(24-m%4*8)%256))) 26 (vy (dY (t0,t1,t2,t3,t4,t5,t6,t7) (m / 4) / 2^(24-m%4*8)%256)) sizeOf5 (by rw [hC,dX];have:=aN B;have:=aB B.length;omega) rfl<|cN) (bK (aI (vY f100 2 [2,4,6,31] [] [vn (m+1),vn (m+1)] [] (pM (dE m 1 (oB (aN B) (aB B.length)))<|jX 1) (?_)))))))))
  exact mN (m+1,C.setIfInBounds m (vy (dY (t0,t1,t2,t3,t4,t5,t6,t7) (m / 4) / 2^(24-m%4*8)%256))) (by show 32-(m+1)<32-m;have:=aN B;have:=aB B.length;omega) (⟨(oB (aN B) (aB B.length)),by rw [hC];exact yH rfl⟩) []
 rw [y2]
 refine eF (aO (aO (bU ?_)))
 rw [hC]
 refine aI (pO f100 2 [2] [1,0,0] [.agg (bG .u8 32 (wY (t0,t1,t2,t3,t4,t5,t6,t7) m)),undef] [(1,(oK 0 (nb r1 0) (cL (bG .u8 32 (wY (t0,t1,t2,t3,t4,t5,t6,t7) m)) 26)))] (qFc (fun hG=>sW isAgg26 sizeOf26 (hG.kn (g:=nb r9 0) (o:=(cL (bG .u8 32 (wY (t0,t1,t2,t3,t4,t5,t6,t7) m)) 26)) 2) (dX _ _ _))<|jE [[0]]) (gQ ?_))
 exact mR (v:=(.agg (bG .u8 32 (wY (t0,t1,t2,t3,t4,t5,t6,t7) m)))) (fun _ hS=>⟨congrArg Ending.returned (congrArg Value.agg ((dgf_end (by have:=yF y2;have:=aN B;have:=aB B.length;omega)).trans (congrArg hB (sha_end hQ (by have:=yF y2;have:=aN B;have:=aB B.length;omega))))),hS.bel⟩)
theorem rpad_any (n:Nat) (hn:n<=140737488351232) (w0:World):Calls prog 247 #[vx n] w0 (fun ε w'=>∃ α κ,ε=.returned (.slice α (aK n).length κ)/\jG w0 w'/\Fs w0 w' α κ (aK n)):=by
 refine Calls.cW 31 (fun _=>True) func247 rfl rfl rfl jT (jJ f247 1 [0,2] [vz] (sS f247 2 [0,2,3] [] (fun r=>let qa:=vs (nb r 0) ([128]:LU).length 1;[qa,qa]) (fun r=>[(0,(nw r 0 (cL #[.int .u8 128] 5)))]) (jX 2) (fun r2=>aU (aY ?_))))
 refine oL (σ:=(Nat × Nat × (LU) × (Array Value) × Nat)) (fun s=>match s with |  ⟨_,g,X,_,κ⟩=>[(0,(vx n)),(2,vz),(3,(vs g X.length κ))]) (fun s=>match s with |  ⟨_,g,_,C,_⟩=>[(g,(cL C 5))]) (fun s=>match s with |  ⟨j,_,_,_,_⟩=>zeros n-j)
  (fun s=>match s with |  ⟨j,_,X,C,κ⟩=>(j<=zeros n)/\(X=128::List.replicate j 0)/\(Hd C X)/\(C.size=κ)/\(X.length<=κ)) ((0,nb r2 0,([128]:LU),#[.int .u8 128],1)) (⟨Nat.zero_le _,rfl,(rfl:Hd #[.int .u8 128] ([128]:LU)),rfl,Nat.le_refl 1⟩) [] ?_
 rintro ⟨j,g,X,C,κ⟩
 rintro ⟨hj,hX,hC,hs,hle⟩
 refine aU (pO f247 8 [0,2,3,13] [] [vx n,vs g X.length κ,vn X.length,vx X.length,vx (n+X.length),vx ((n+X.length)+8),vx (((n+X.length)+8)%64),.bool (((((n+X.length)+8)%64:Nat):Int) != 0)] [] (jY 3<|cA (v:=fun r=>(.int .u64 (IntKind.u64.wrap (X.length:Int)))) (fun _=>(vx X.length)) (fun _=>congrArg (Value.int .u64) (u64N (oB (aB n) (l9 hX))))<|cA (v:=fun r=>(.int .u64 (IntKind.u64.wrap ((n:Int)+(X.length:Int))))) (fun _=>(vx (n+X.length))) (fun _=>congrArg (Value.int .u64) (sZ n X.length (oB (aB n) (l9 hX))))<|cA (v:=fun r=>(.int .u64 (IntKind.u64.wrap (((n+X.length:Nat):Int)+8)))) (fun _=>(vx ((n+X.length)+8))) (fun _=>congrArg (Value.int .u64) (sZ (n+X.length) 8 (oB (aB n) (l9 hX))))<|cB (a:=fun r=>(vx ((n+X.length)+8))) (b:=fun r=>(.int .u64 64)) (v:=fun r=>(vx (((n+X.length)+8)%64))) .rem 29 (fun _ w=>xN (k:=.u64) (n:=((n+X.length)+8)) (d:=64) dC w)<|jX 1) (oC (((((n+X.length)+8)%64:Nat):Int) != 0) (fun t1=>?_) (fun t1=>?_)))
 ·rw [t1]
  refine dM (aI (aY ?_))
  rcases jO (decide (X.length+([0]:LU).length<=κ)) with t2 | t2
  ·refine rS f247 4 [0,2,3] [1,0] (fun r=>let qa:=vs g (X++([0]:LU)).length κ;[vs g X.length κ,vs (nb r 1) ([0]:LU).length 1,qa,qa]) (fun r=>[(1,(nw r 1 (cL #[.int .u8 0] 5))),(2,(oK 0 g (cL (inpl C X.length (bs ([0]:LU))) 5)))]) (jY 2<|cX (o_put1 _ 0 (fun r=>do pure (Next.value (<- Builtin.append_ #[22,22] 22 #[vs g X.length κ,vs (nb r 1) ([0]:LU).length 1]))) (fun _=>g) (fun _=>(cL C 5)) (fun _=>(cL (inpl C X.length (bs ([0]:LU))) 5)) (fun _=>(vs g (X++([0]:LU)).length κ)) (fun _=>kr) (fun _=>kr) (fun _=>kr) (fun _=>kr) tV (fun r _ _ hG hg=>qH underlying22 u8i hg (Bs.src (tx:=22) underlying22 (Bs.of_hd (hG.kn (g:=nb r 1) (o:=(cL #[.int .u8 0] 5)) 9) (rfl:Hd #[.int .u8 0] ([0]:LU)) (Nat.le_refl 1) lb)) hs (yT t2)))<|jX 1) (fun _=>bK ?_)
   exact mN ((j+1,g,X++([0]:LU),inpl C X.length (bs ([0]:LU)),κ)) (by show zeros n-(j+1)<zeros n-j;have:=(xZ hj (by have h1:=bne0N t1;rw [l9 hX] at h1;exact h1));omega) (⟨xZ hj (by have h1:=bne0N t1;rw [l9 hX] at h1;exact h1),zer_next hX,Hd.inpl hC rfl,(qL _ _ _ (room_le hs (yT t2))).trans hs,uX (yT t2)⟩) []
  refine rS f247 4 [0,2,3] [0,0,1] (fun r=>let qa:=vs (nb r 2) (X++([0]:LU)).length ((X++([0]:LU)).length+vI r 2);[vs g X.length κ,vs (nb r 1) ([0]:LU).length 1,qa,qa]) (fun r=>[(1,(nw r 1 (cL #[.int .u8 0] 5))),(2,(nw r 2 (cL (grow C X.length (bs ([0]:LU)) (vI r 2)) 5)))]) (jY 2<|cX (qN (fun _ ζ=>(vs (ζ.headD 0) (X++([0]:LU)).length ((X++([0]:LU)).length+ζ.tail.headD 0))) (fun _ ζ=>(cL (grow C X.length (bs ([0]:LU)) (ζ.tail.headD 0)) 5)) (fun r _ _ hG=>uI (ty:=22) underlying22 u8i (hG.kn (g:=g) (o:=(cL C 5)) 0) (Bs.src (tx:=22) underlying22 (Bs.of_hd (hG.kn (g:=nb r 1) (o:=(cL #[.int .u8 0] 5)) 9) (rfl:Hd #[.int .u8 0] ([0]:LU)) (Nat.le_refl 1) lb)) hs hle (Nat.lt_of_not_le (yF t2)) (by have:=yF t2;have:=hn;have:=aB n;have:=hj;have:=l9 hX;simp only [List.length_cons,List.length_nil];omega)))<|jX 1) (fun r5=>bK ?_)
  exact mN ((j+1,nb r5 2,X++([0]:LU),grow C X.length (bs ([0]:LU)) (vI r5 2),(X++([0]:LU)).length+vI r5 2)) (by show zeros n-(j+1)<zeros n-j;have:=(xZ hj (by have h1:=bne0N t1;rw [l9 hX] at h1;exact h1));omega) (⟨xZ hj (by have h1:=bne0N t1;rw [l9 hX] at h1;exact h1),zer_next hX,Hd.grow hC rfl,qW hC,Nat.le_add_right _ _⟩) []
 rw [t1]
 refine eF (aO (aO (bU (aI (aU (jJ f247 1 [0,2,3,4] [vi 7] (aY ?_)))))))
 refine oL (σ:=(Nat × Nat × (LU) × (Array Value) × Nat)) (fun s=>match s with |  ⟨k,g2,X2,_,κ2⟩=>[(0,(vx n)),(2,vz),(3,(vs g2 X2.length κ2)),(4,(vi (7-(k:Int))))]) (fun s=>match s with |  ⟨_,g2,_,C2,_⟩=>[(g2,(cL C2 5))]) (fun s=>match s with |  ⟨k,_,_,_,_⟩=>8-k)
  (fun s=>match s with |  ⟨k,_,X2,C2,κ2⟩=>(k<=8)/\(X2=128::(List.replicate (zeros n) 0++be8 (8*n) k))/\(Hd C2 X2)/\(C2.size=κ2)/\(X2.length<=κ2)) ((0,g,X,C,κ)) (⟨by decide,zer_be hX (zer_end hj (by have h1:=bne0N' t1;rw [l9 hX] at h1;exact h1)),hC,hs,hle⟩) [] ?_
 rintro ⟨k,g2,X2,C2,κ2⟩
 rintro ⟨hk,hX2,hC2,hs2,hle2⟩
 refine aU (jJ f247 2 [0,2,3,4,18] [vi (7-(k:Int)),.bool (decide (0<=(7-(k:Int))))] (oC (decide (0<=(7-(k:Int)))) (fun t3=>?_) (fun t3=>?_)))
 ·rw [t3]
  have:=yT t3
  refine dM (aI (aU (aY ?_)))
  rcases jO (decide (X2.length+([ob ((8*n / 2^(56-8*k)%256:Nat):Int)]:LU).length<=κ2)) with t4 | t4
  ·refine rS f247 10 [0,2,3,4] [1,0] (fun r=>let qa:=([ob ((8*n / 2^(56-8*k)%256:Nat):Int)]:LU);let qb:=vs g2 (X2++qa).length κ2;[vs g2 X2.length κ2,vx n,vx (8*n),vi (7-(k:Int)),vn (56-8*k),vx (8*n / 2^(56-8*k)),vy (8*n / 2^(56-8*k)%256),vs (nb r 7) qa.length 1,qb,qb]) (fun r=>[(7,(nw r 7 (cL #[vy (8*n / 2^(56-8*k)%256)] 5))),(8,(oK 0 g2 (cL (inpl C2 X2.length (bs ([ob ((8*n / 2^(56-8*k)%256:Nat):Int)]:LU))) 5)))]) (jY 2<|cA (v:=fun r=>(.int .u64 (IntKind.u64.wrap (8*(n:Int))))) (fun _=>(vx (8*n))) (fun _=>congrArg (Value.int .u64) (u64_mulN 8 n (by have:=yT t4;have:=aB n;have:=cO hX2;omega)))<|jY 1<|jWc (8*(7-(k:Int))) (56-8*k) ((i64N (by have:=yT t4;have:=aB n;have:=cO hX2;omega)).trans (by have:=yT t4;have:=aB n;have:=cO hX2;omega))<|cB (a:=fun r=>(vx (8*n))) (b:=fun r=>(vn (56-8*k))) (v:=fun r=>(vx (8*n / 2^(56-8*k)))) .shr 29 (fun _ w=>iG (k:=.u64) (x:=8*n) (c:=56-8*k) (by have:=yT t4;have:=hn;have:=aB n;have:=hj;have:=hk;have:=cO hX2;show 8*n<18446744073709551616;omega) w)<|kE (vy (8*n / 2^(56-8*k)%256)) (congrArg (Value.int .u8) (u8M (8*n / 2^(56-8*k))))<|jY 1<|cX (o_put1 _ 0 (fun r=>do pure (Next.value (<- Builtin.append_ #[22,22] 22 #[vs g2 X2.length κ2,vs (nb r 7) ([ob ((8*n / 2^(56-8*k)%256:Nat):Int)]:LU).length 1]))) (fun _=>g2) (fun _=>(cL C2 5)) (fun _=>(cL (inpl C2 X2.length (bs ([ob ((8*n / 2^(56-8*k)%256:Nat):Int)]:LU))) 5)) (fun _=>(vs g2 (X2++([ob ((8*n / 2^(56-8*k)%256:Nat):Int)]:LU)).length κ2)) (fun _=>kr) (fun _=>kr) (fun _=>kr) (fun _=>kr) tV (fun r _ _ hG hg=>qH underlying22 u8i hg (Bs.src (tx:=22) underlying22 (Bs.of_hd (hG.kn (g:=nb r 7) (o:=(cL #[vy (8*n / 2^(56-8*k)%256)] 5)) 57) (hd1 om) (Nat.le_refl 1) lb)) hs2 (yT t4)))<|jX 1) (fun _=>bK (aI (vY f247 3 [0,2,3,4] [] (let qa:=vi (7-((k+1:Nat):Int));[vi (7-(k:Int)),qa,qa]) [] (jY 1<|jUc ((7-(k:Int))-1) (7-((k+1:Nat):Int)) ((i64N (by have:=yT t4;have:=aB n;have:=cO hX2;omega)).trans om)<|jX 1) (?_))))
   exact mN ((k+1,g2,X2++([ob ((8*n / 2^(56-8*k)%256:Nat):Int)]:LU),inpl C2 X2.length (bs ([ob ((8*n / 2^(56-8*k)%256:Nat):Int)]:LU)),κ2)) (by show 8-(k+1)<8-k;have:=yT t4;have:=aB n;have:=cO hX2;omega) (⟨(by have:=yT t4;have:=aB n;have:=cO hX2;omega),pad_next hX2,Hd.inpl hC2 rfl,(qL _ _ _ (room_le hs2 (yT t4))).trans hs2,uX (yT t4)⟩) []
  refine rS f247 10 [0,2,3,4] [0,0,1] (fun r=>let qa:=([ob ((8*n / 2^(56-8*k)%256:Nat):Int)]:LU);let qb:=vs (nb r 8) (X2++qa).length ((X2++qa).length+vI r 8);[vs g2 X2.length κ2,vx n,vx (8*n),vi (7-(k:Int)),vn (56-8*k),vx (8*n / 2^(56-8*k)),vy (8*n / 2^(56-8*k)%256),vs (nb r 7) qa.length 1,qb,qb]) (fun r=>[(7,(nw r 7 (cL #[vy (8*n / 2^(56-8*k)%256)] 5))),(8,(nw r 8 (cL (grow C2 X2.length (bs ([ob ((8*n / 2^(56-8*k)%256:Nat):Int)]:LU)) (vI r 8)) 5)))]) (jY 2<|cA (v:=fun r=>(.int .u64 (IntKind.u64.wrap (8*(n:Int))))) (fun _=>(vx (8*n))) (fun _=>congrArg (Value.int .u64) (u64_mulN 8 n (by have:=yF t4;have:=aB n;have:=cO hX2;omega)))<|jY 1<|jWc (8*(7-(k:Int))) (56-8*k) ((i64N (by have:=yF t4;have:=aB n;have:=cO hX2;omega)).trans (by have:=yF t4;have:=aB n;have:=cO hX2;omega))<|cB (a:=fun r=>(vx (8*n))) (b:=fun r=>(vn (56-8*k))) (v:=fun r=>(vx (8*n / 2^(56-8*k)))) .shr 29 (fun _ w=>iG (k:=.u64) (x:=8*n) (c:=56-8*k) (by have:=yF t4;have:=hn;have:=aB n;have:=hj;have:=hk;have:=cO hX2;show 8*n<18446744073709551616;omega) w)<|kE (vy (8*n / 2^(56-8*k)%256)) (congrArg (Value.int .u8) (u8M (8*n / 2^(56-8*k))))<|jY 1<|cX (qN (fun _ ζ=>(vs (ζ.headD 0) (X2++([ob ((8*n / 2^(56-8*k)%256:Nat):Int)]:LU)).length ((X2++([ob ((8*n / 2^(56-8*k)%256:Nat):Int)]:LU)).length+ζ.tail.headD 0))) (fun _ ζ=>(cL (grow C2 X2.length (bs ([ob ((8*n / 2^(56-8*k)%256:Nat):Int)]:LU)) (ζ.tail.headD 0)) 5)) (fun r _ _ hG=>uI (ty:=22) underlying22 u8i (hG.kn (g:=g2) (o:=(cL C2 5)) 0) (Bs.src (tx:=22) underlying22 (Bs.of_hd (hG.kn (g:=nb r 7) (o:=(cL #[vy (8*n / 2^(56-8*k)%256)] 5)) 57) (hd1 om) (Nat.le_refl 1) lb)) hs2 hle2 (Nat.lt_of_not_le (yF t4)) (by have:=yF t4;have:=hn;have:=aB n;have:=hj;have:=hk;have:=cO hX2;simp only [List.length_cons,List.length_nil];omega)))<|jX 1) (fun r10=>bK (aI (vY f247 3 [0,2,3,4] [] (let qa:=vi (7-((k+1:Nat):Int));[vi (7-(k:Int)),qa,qa]) [] (jY 1<|jUc ((7-(k:Int))-1) (7-((k+1:Nat):Int)) ((i64N (by have:=yF t4;have:=aB n;have:=cO hX2;omega)).trans om)<|jX 1) (?_))))
  exact mN ((k+1,nb r10 8,X2++([ob ((8*n / 2^(56-8*k)%256:Nat):Int)]:LU),grow C2 X2.length (bs ([ob ((8*n / 2^(56-8*k)%256:Nat):Int)]:LU)) (vI r10 8),(X2++([ob ((8*n / 2^(56-8*k)%256:Nat):Int)]:LU)).length+vI r10 8)) (by show 8-(k+1)<8-k;have:=yF t4;have:=aB n;have:=cO hX2;omega) (⟨(by have:=yF t4;have:=aB n;have:=cO hX2;omega),pad_next hX2,Hd.grow hC2 rfl,qW hC2,Nat.le_add_right _ _⟩) []
 rw [t3]
 refine eF (aO (aO (bU (aI (jJ f247 2 [2] [vs g2 X2.length κ2,vs g2 X2.length κ2] (gQ (mD [(2,(vs g2 X2.length κ2))] [(g2,(cL C2 5))] ?_)))))))
 exact mR (v:=(vs g2 X2.length κ2)) (fun _ hS=>⟨some ⟨g2,0,none⟩,κ2,congrArg Ending.returned (by rw [(pad_end hX2 (by have:=yF t3;have:=aB n;have:=cO hX2;omega))]),hS.bel,fs_eq (pad_end hX2 (by have:=yF t3;have:=aB n;have:=cO hX2;omega)) (hS.fresh (.head _) hC2 hle2 (by have:=aB n;have:=l9 hX;have:=cO hX2;omega))⟩)
theorem iM (x:Nat) (n:Nat) (hx:x<4294967296) (hn:0<n/\n<32) (w0:World):Calls prog 287 #[vu x,vn n] w0 (jR (vu (aA x n)) w0):=by
 refine Calls.cW 9 (fun _=>True) func287 rfl rfl rfl jT (jJ f287 1 [0,1,4] [.int .u32 0] (pO f287 5 [4] [] [vu x,vn n,vi (0-(n:Int)),vu (aA x n),vu (aA x n)] [] (jY 2<|jUi (0-(n:Int)) om<|cCc (rotl_any x n hx hn)<|jX 1) (gQ ?_)))
 exact mR (v:=(vu (aA x n))) (fun _ hS=>⟨rfl,hS.bel⟩)
theorem rsched_any (X:LU) (hX:X.length=64) (w0:World):Calls prog 285 #[.agg (bs X).toArray] w0 (jR (.agg (bG .u32 64 (wN X))) w0):=by
 refine Calls.cW 97 (fun _=>True) func285 rfl rfl rfl jT (sS f285 2 [1,2] [] (fun r=>[pt (nb r 0),pt (nb r 1)]) (fun r=>[(0,(nw r 0 (cL (bs X).toArray 247))),(1,(nw r 1 (cL (bG .u32 64 (fun _=>0)) 285)))]) (jX 2) (fun r1=>sS f285 1 [1,2,3] [] (fun r=>[pt (nb r 0)]) (fun r=>[(0,(nw r 0 (cL (bG .u32 64 (fun _=>0)) 285)))]) (jX 1) (fun r2=>aU (jJ f285 1 [1,2,3,4] [vi 0] (aY ?_)))))
 refine oL (σ:=Nat × (Array Value)) (fun ⟨i,_⟩=>[(1,(pt (nb r1 0))),(2,(pt (nb r1 1))),(3,(pt (nb r2 0))),(4,(vn i))]) (fun ⟨_,C⟩=>[(nb r1 0,(cL (bs X).toArray 247)),(nb r1 1,(cL (bG .u32 64 (fun _=>0)) 285)),(nb r2 0,(cL C 285))]) (fun ⟨i,_⟩=>16-i)
  (fun ⟨i,C⟩=>(i<=16)/\(C=bG .u32 64 (sc X i 0))) (0,bG .u32 64 (fun _=>0)) (⟨by decide,zrow_sc X⟩) [] ?_
 rintro ⟨i,C⟩ ⟨hi,hC⟩
 refine aU (jJ f285 2 [1,2,3,4,9] [vn i,.bool (decide ((i:Int)<16))] (oC (decide ((i:Int)<16)) (fun h1=>?_) (fun h1=>?_)))
 ·rw [h1]
  have:=yT h1
  refine dM (aI (aU (aY (rDc f285 [0,0,2,6,14,30,62,0,128,384,896,1920,3968,8064,16382,0,32768,98304,229376,491520,1015808,2064384,4194302,0,8388608,25165824,58720256,125829120,260046848,536870910,1073741823,2147483647] 32 [1,2,3,4] [] (let qa:=gB X (4*i)*256+gB X ((4*i)+1);[vn i,vn i,vn (4*i),jp (nb r1 0) (4*i),vy (gB X (4*i)),vu (gB X (4*i)),vu (gB X (4*i)*16777216),vn i,vn (4*i),vn ((4*i)+1),jp (nb r1 0) ((4*i)+1),vy (gB X ((4*i)+1)),vu (gB X ((4*i)+1)),vu (gB X ((4*i)+1)*65536),vu (qa*65536),vn i,vn (4*i),vn ((4*i)+2),jp (nb r1 0) ((4*i)+2),vy (gB X ((4*i)+2)),vu (gB X ((4*i)+2)),vu (gB X ((4*i)+2)*256),vu ((qa*256+gB X ((4*i)+2))*256),vn i,vn (4*i),vn ((4*i)+3),jp (nb r1 0) ((4*i)+3),vy (gB X ((4*i)+3)),vu (gB X ((4*i)+3)),vu (word X i),jp (nb r2 0) i,undef]) [(31,(oK 2 (nb r2 0) (cL (C.setIfInBounds i (vu (word X i))) 285)))] (jY 2<|pM (gU 4 i om)<|oW (Instr.indexAt 247 (pt (nb r1 0)) (vn (4*i))) (jp (nb r1 0) (4*i)) (aC (n:=((4*i:Nat):Int)) (i:=4*i) underlying247 sizeOf5 om)<|lG 0 5 (nb r1 0) (4*i) ((bs X).toArray) 247 (vy (gB X (4*i))) isAgg5 (yP (by rw [hX];omega))<|cA (v:=fun r=>(.int .u32 (IntKind.u32.wrap (gB X (4*i):Int)))) (fun _=>(vu (gB X (4*i)))) (fun _=>jN (u32N (Nat.lt_of_lt_of_le (iU _ _) dC)))<|cB (a:=fun r=>(vu (gB X (4*i)))) (b:=fun r=>(.int .u64 24)) (v:=fun r=>(vu (gB X (4*i)*16777216))) .shl 24 (fun _ w=>yN (k:=.u32) (yk:=.u64) (x:=gB X (4*i)) (c:=24) rfl (by have:=iU X (4*i);show _*16777216<4294967296;omega) (fun _=>by decide) w)<|jY 1<|pM (gU 4 i om)<|pM (dE (4*i) 1 om)<|oW (Instr.indexAt 247 (pt (nb r1 0)) (vn ((4*i)+1))) (jp (nb r1 0) ((4*i)+1)) (aC (n:=(((4*i)+1:Nat):Int)) (i:=(4*i)+1) underlying247 sizeOf5 om)<|lG 0 5 (nb r1 0) ((4*i)+1) ((bs X).toArray) 247 (vy (gB X ((4*i)+1))) isAgg5 (yP (by rw [hX];omega))<|cA (v:=fun r=>(.int .u32 (IntKind.u32.wrap (gB X ((4*i)+1):Int)))) (fun _=>(vu (gB X ((4*i)+1)))) (fun _=>jN (u32N (Nat.lt_of_lt_of_le (iU _ _) dC)))<|cB (a:=fun r=>(vu (gB X ((4*i)+1)))) (b:=fun r=>(.int .u64 16)) (v:=fun r=>(vu (gB X ((4*i)+1)*65536))) .shl 24 (fun _ w=>yN (k:=.u32) (yk:=.u64) (x:=gB X ((4*i)+1)) (c:=16) rfl (by have:=iU X ((4*i)+1);show _*65536<4294967296;omega) (fun _=>by decide) w)<|cA (v:=fun r=>(.int .u32 (bits .or .u32 (gB X (4*i)*16777216:Int) (gB X ((4*i)+1)*65536:Int)))) (fun _=>(vu ((gB X (4*i)*256+gB X ((4*i)+1))*65536))) (fun _=>jN (or_w1 (iU _ _) (iU _ _)))<|jY 1<|pM (gU 4 i om)<|pM (dE (4*i) 2 om)<|oW (Instr.indexAt 247 (pt (nb r1 0)) (vn ((4*i)+2))) (jp (nb r1 0) ((4*i)+2)) (aC (n:=(((4*i)+2:Nat):Int)) (i:=(4*i)+2) underlying247 sizeOf5 om)<|lG 0 5 (nb r1 0) ((4*i)+2) ((bs X).toArray) 247 (vy (gB X ((4*i)+2))) isAgg5 (yP (by rw [hX];omega))<|cA (v:=fun r=>(.int .u32 (IntKind.u32.wrap (gB X ((4*i)+2):Int)))) (fun _=>(vu (gB X ((4*i)+2)))) (fun _=>jN (u32N (Nat.lt_of_lt_of_le (iU _ _) dC)))<|cB (a:=fun r=>(vu (gB X ((4*i)+2)))) (b:=fun r=>(.int .u64 8)) (v:=fun r=>(vu (gB X ((4*i)+2)*256))) .shl 24 (fun _ w=>yN (k:=.u32) (yk:=.u64) (x:=gB X ((4*i)+2)) (c:=8) rfl (by have:=iU X ((4*i)+2);show _*256<4294967296;omega) (fun _=>by decide) w)<|cA (v:=fun r=>(.int .u32 (bits .or .u32 (((gB X (4*i)*256+gB X ((4*i)+1))*65536:Nat):Int) (gB X ((4*i)+2)*256:Int)))) (fun _=>(vu (((gB X (4*i)*256+gB X ((4*i)+1))*256+gB X ((4*i)+2))*256))) (fun _=>jN (or_w2 (iU _ _) (iU _ _) (iU _ _)))<|jY 1<|pM (gU 4 i om)<|pM (dE (4*i) 3 om)<|oW (Instr.indexAt 247 (pt (nb r1 0)) (vn ((4*i)+3))) (jp (nb r1 0) ((4*i)+3)) (aC (n:=(((4*i)+3:Nat):Int)) (i:=(4*i)+3) underlying247 sizeOf5 om)<|lG 0 5 (nb r1 0) ((4*i)+3) ((bs X).toArray) 247 (vy (gB X ((4*i)+3))) isAgg5 (yP (by rw [hX];omega))<|cA (v:=fun r=>(.int .u32 (IntKind.u32.wrap (gB X ((4*i)+3):Int)))) (fun _=>(vu (gB X ((4*i)+3)))) (fun _=>jN (u32N (Nat.lt_of_lt_of_le (iU _ _) dC)))<|kE (vu (word X i)) (jN or_w3)<|oW (Instr.indexAt 285 (pt (nb r2 0)) (vn i)) (jp (nb r2 0) i) (aC (n:=(i:Int)) (i:=i) underlying285 sizeOf24 om)<|oStc 2 24 (nb r2 0) i C (C.setIfInBounds i (vu (word X i))) 285 (vu (word X i)) sizeOf24 (by rw [hC,dX];omega) rfl<|cN) (bK (aI (vY f285 3 [1,2,3,4] [] [vn i,vn (i+1),vn (i+1)] [] (jY 1<|pM (dE i 1 om)<|jX 1) (?_))))))))
  exact mN (i+1,C.setIfInBounds i (vu (word X i))) (by show 16-(i+1)<16-i;omega) (⟨om,by rw [hC];exact sc_word⟩) []
 rw [h1]
 have:=yF h1
 refine eF (aO (aO (bU (aI (aU (jM f285 1 [2,3,5] [0,1,1] [vi 16] [[]] (aY ?_)))))))
 refine oL (σ:=Nat × (Array Value)) (fun ⟨k,_⟩=>[(2,(pt (nb r1 1))),(3,(pt (nb r2 0))),(5,(vn k))]) (fun ⟨_,C3⟩=>[(nb r1 1,(cL (bG .u32 64 (fun _=>0)) 285)),(nb r2 0,(cL C3 285))]) (fun ⟨k,_⟩=>64-k)
  (fun ⟨k,C3⟩=>(16<=k/\k<=64)/\(C3=bG .u32 64 (tc X k))) (16,C) (⟨by decide,hC.trans (by rw [show i=16 by omega];exact sc_tc X)⟩) [] ?_
 rintro ⟨k,C3⟩ ⟨hk,hC3⟩
 refine aU (jJ f285 2 [2,3,5,44] [vn k,.bool (decide ((k:Int)<64))] (oC (decide ((k:Int)<64)) (fun h2=>?_) (fun h2=>?_)))
 ·rw [h2]
  have:=yT h2
  refine dM (aI (aU (aY (sDc f285 [0,1,3,7,15,0,32,96,224,511,1023,0,2048,6144,14336,30720,65535,131071] 18 [2,3,5,6] [] (let qa:=vu (((aA (wN X (k-15)) 7)^^^(aA (wN X (k-15)) 18))^^^((wN X (k-15)) / 2^3));let qb:=vi ((k:Int)-15);[vn k,qb,jp (nb r2 0) (k-15),vu (wN X (k-15)),vu (aA (wN X (k-15)) 7),vn k,qb,jp (nb r2 0) (k-15),vu (wN X (k-15)),vu (aA (wN X (k-15)) 18),vu ((aA (wN X (k-15)) 7)^^^(aA (wN X (k-15)) 18)),vn k,qb,jp (nb r2 0) (k-15),vu (wN X (k-15)),vu ((wN X (k-15)) / 2^3),qa,qa]) [] (jY 1<|jUi ((k:Int)-15) om<|oW (Instr.indexAt 285 (pt (nb r2 0)) (vi ((k:Int)-15))) (jp (nb r2 0) (k-15)) (aC (n:=(k:Int)-15) (i:=k-15) underlying285 sizeOf24 om)<|lG 1 24 (nb r2 0) (k-15) C3 285 (vu (wN X (k-15))) isAgg24 (by rw [hC3];exact kG om om)<|cC (f:=287) (args:=fun r=> #[vu (wN X (k-15)),vi 7]) (v:=fun r=>(vu (aA (wN X (k-15)) 7))) (fun _ w=>(fun w=>iM (wN X (k-15)) 7 (fG _ _) dC w) w)<|jY 1<|jUi ((k:Int)-15) om<|oW (Instr.indexAt 285 (pt (nb r2 0)) (vi ((k:Int)-15))) (jp (nb r2 0) (k-15)) (aC (n:=(k:Int)-15) (i:=k-15) underlying285 sizeOf24 om)<|lG 1 24 (nb r2 0) (k-15) C3 285 (vu (wN X (k-15))) isAgg24 (by rw [hC3];exact kG om om)<|cC (f:=287) (args:=fun r=> #[vu (wN X (k-15)),vi 18]) (v:=fun r=>(vu (aA (wN X (k-15)) 18))) (fun _ w=>(fun w=>iM (wN X (k-15)) 18 (fG _ _) dC w) w)<|cA (v:=fun r=>(.int .u32 (bits .xor .u32 (aA (wN X (k-15)) 7:Int) (aA (wN X (k-15)) 18:Int)))) (fun _=>(vu ((aA (wN X (k-15)) 7)^^^(aA (wN X (k-15)) 18)))) (fun _=>jN (jL (bF _ (fG _ _)) (bF _ (fG _ _))))<|jY 1<|jUi ((k:Int)-15) om<|oW (Instr.indexAt 285 (pt (nb r2 0)) (vi ((k:Int)-15))) (jp (nb r2 0) (k-15)) (aC (n:=(k:Int)-15) (i:=k-15) underlying285 sizeOf24 om)<|lG 1 24 (nb r2 0) (k-15) C3 285 (vu (wN X (k-15))) isAgg24 (by rw [hC3];exact kG om om)<|cB (a:=fun r=>(vu (wN X (k-15)))) (b:=fun r=>(.int .u64 3)) (v:=fun r=>(vu ((wN X (k-15)) / 2^3))) .shr 24 (fun _ w=>iG (k:=.u32) (x:=(wN X (k-15))) (c:=3) (fG _ _) w)<|cA (v:=fun r=>(.int .u32 (bits .xor .u32 (((aA (wN X (k-15)) 7)^^^(aA (wN X (k-15)) 18):Nat):Int) (((wN X (k-15)) / 2^3:Nat):Int)))) (fun _=>(vu (((aA (wN X (k-15)) 7)^^^(aA (wN X (k-15)) 18))^^^((wN X (k-15)) / 2^3)))) (fun _=>jN (jL (kT (bF _ (fG _ _)) (bF _ (fG _ _))) (qG _ (fG _ _))))<|jX 1) (sDc f285 [0,1,3,7,15,0,32,96,224,511,1023,0,2048,6144,14336,30720,65535,131071] 18 [2,3,5,6,7] [] (let qa:=vu (((aA (wN X (k-2)) 17)^^^(aA (wN X (k-2)) 19))^^^((wN X (k-2)) / 2^10));let qb:=vi ((k:Int)-2);[vn k,qb,jp (nb r2 0) (k-2),vu (wN X (k-2)),vu (aA (wN X (k-2)) 17),vn k,qb,jp (nb r2 0) (k-2),vu (wN X (k-2)),vu (aA (wN X (k-2)) 19),vu ((aA (wN X (k-2)) 17)^^^(aA (wN X (k-2)) 19)),vn k,qb,jp (nb r2 0) (k-2),vu (wN X (k-2)),vu ((wN X (k-2)) / 2^10),qa,qa]) [] (jY 1<|jUi ((k:Int)-2) om<|oW (Instr.indexAt 285 (pt (nb r2 0)) (vi ((k:Int)-2))) (jp (nb r2 0) (k-2)) (aC (n:=(k:Int)-2) (i:=k-2) underlying285 sizeOf24 om)<|lG 1 24 (nb r2 0) (k-2) C3 285 (vu (wN X (k-2))) isAgg24 (by rw [hC3];exact kG om om)<|cC (f:=287) (args:=fun r=> #[vu (wN X (k-2)),vi 17]) (v:=fun r=>(vu (aA (wN X (k-2)) 17))) (fun _ w=>(fun w=>iM (wN X (k-2)) 17 (fG _ _) dC w) w)<|jY 1<|jUi ((k:Int)-2) om<|oW (Instr.indexAt 285 (pt (nb r2 0)) (vi ((k:Int)-2))) (jp (nb r2 0) (k-2)) (aC (n:=(k:Int)-2) (i:=k-2) underlying285 sizeOf24 om)<|lG 1 24 (nb r2 0) (k-2) C3 285 (vu (wN X (k-2))) isAgg24 (by rw [hC3];exact kG om om)<|cC (f:=287) (args:=fun r=> #[vu (wN X (k-2)),vi 19]) (v:=fun r=>(vu (aA (wN X (k-2)) 19))) (fun _ w=>(fun w=>iM (wN X (k-2)) 19 (fG _ _) dC w) w)<|cA (v:=fun r=>(.int .u32 (bits .xor .u32 (aA (wN X (k-2)) 17:Int) (aA (wN X (k-2)) 19:Int)))) (fun _=>(vu ((aA (wN X (k-2)) 17)^^^(aA (wN X (k-2)) 19)))) (fun _=>jN (jL (bF _ (fG _ _)) (bF _ (fG _ _))))<|jY 1<|jUi ((k:Int)-2) om<|oW (Instr.indexAt 285 (pt (nb r2 0)) (vi ((k:Int)-2))) (jp (nb r2 0) (k-2)) (aC (n:=(k:Int)-2) (i:=k-2) underlying285 sizeOf24 om)<|lG 1 24 (nb r2 0) (k-2) C3 285 (vu (wN X (k-2))) isAgg24 (by rw [hC3];exact kG om om)<|cB (a:=fun r=>(vu (wN X (k-2)))) (b:=fun r=>(.int .u64 10)) (v:=fun r=>(vu ((wN X (k-2)) / 2^10))) .shr 24 (fun _ w=>iG (k:=.u32) (x:=(wN X (k-2))) (c:=10) (fG _ _) w)<|cA (v:=fun r=>(.int .u32 (bits .xor .u32 (((aA (wN X (k-2)) 17)^^^(aA (wN X (k-2)) 19):Nat):Int) (((wN X (k-2)) / 2^10:Nat):Int)))) (fun _=>(vu (((aA (wN X (k-2)) 17)^^^(aA (wN X (k-2)) 19))^^^((wN X (k-2)) / 2^10)))) (fun _=>jN (jL (kT (bF _ (fG _ _)) (bF _ (fG _ _))) (qG _ (fG _ _))))<|jX 1) (rDc f285 [0,0,2,6,14,0,62,0,128,384,896,2046,0,8190,16383,32767] 16 [2,3,5] [] (let qa:=add32 (wN X (k-16)) (((aA (wN X (k-15)) 7)^^^(aA (wN X (k-15)) 18))^^^((wN X (k-15)) / 2^3));[vn k,vn k,vi ((k:Int)-16),jp (nb r2 0) (k-16),vu (wN X (k-16)),vu (((aA (wN X (k-15)) 7)^^^(aA (wN X (k-15)) 18))^^^((wN X (k-15)) / 2^3)),vu qa,vn k,vi ((k:Int)-7),jp (nb r2 0) (k-7),vu (wN X (k-7)),vu (add32 qa (wN X (k-7))),vu (((aA (wN X (k-2)) 17)^^^(aA (wN X (k-2)) 19))^^^((wN X (k-2)) / 2^10)),vu (add32 (add32 qa (wN X (k-7))) (((aA (wN X (k-2)) 17)^^^(aA (wN X (k-2)) 19))^^^((wN X (k-2)) / 2^10))),jp (nb r2 0) k,undef]) [(15,(oK 1 (nb r2 0) (cL (C3.setIfInBounds k (vu (add32 (add32 (add32 (wN X (k-16)) (((aA (wN X (k-15)) 7)^^^(aA (wN X (k-15)) 18))^^^((wN X (k-15)) / 2^3))) (wN X (k-7))) (((aA (wN X (k-2)) 17)^^^(aA (wN X (k-2)) 19))^^^((wN X (k-2)) / 2^10))))) 285)))] (jY 2<|jUi ((k:Int)-16) om<|oW (Instr.indexAt 285 (pt (nb r2 0)) (vi ((k:Int)-16))) (jp (nb r2 0) (k-16)) (aC (n:=(k:Int)-16) (i:=k-16) underlying285 sizeOf24 om)<|lG 1 24 (nb r2 0) (k-16) C3 285 (vu (wN X (k-16))) isAgg24 (by rw [hC3];exact kG om om)<|jY 1<|kE (vu (add32 (wN X (k-16)) (((aA (wN X (k-15)) 7)^^^(aA (wN X (k-15)) 18))^^^((wN X (k-15)) / 2^3)))) (jN (aQ (wN X (k-16)) (((aA (wN X (k-15)) 7)^^^(aA (wN X (k-15)) 18))^^^((wN X (k-15)) / 2^3))))<|jY 1<|jUi ((k:Int)-7) om<|oW (Instr.indexAt 285 (pt (nb r2 0)) (vi ((k:Int)-7))) (jp (nb r2 0) (k-7)) (aC (n:=(k:Int)-7) (i:=k-7) underlying285 sizeOf24 om)<|lG 1 24 (nb r2 0) (k-7) C3 285 (vu (wN X (k-7))) isAgg24 (by rw [hC3];exact kG om om)<|kE (vu (add32 (add32 (wN X (k-16)) (((aA (wN X (k-15)) 7)^^^(aA (wN X (k-15)) 18))^^^((wN X (k-15)) / 2^3))) (wN X (k-7)))) (jN (aQ (add32 (wN X (k-16)) (((aA (wN X (k-15)) 7)^^^(aA (wN X (k-15)) 18))^^^((wN X (k-15)) / 2^3))) (wN X (k-7))))<|jY 1<|kE (vu (add32 (add32 (add32 (wN X (k-16)) (((aA (wN X (k-15)) 7)^^^(aA (wN X (k-15)) 18))^^^((wN X (k-15)) / 2^3))) (wN X (k-7))) (((aA (wN X (k-2)) 17)^^^(aA (wN X (k-2)) 19))^^^((wN X (k-2)) / 2^10)))) (jN (aQ (add32 (add32 (wN X (k-16)) (((aA (wN X (k-15)) 7)^^^(aA (wN X (k-15)) 18))^^^((wN X (k-15)) / 2^3))) (wN X (k-7))) (((aA (wN X (k-2)) 17)^^^(aA (wN X (k-2)) 19))^^^((wN X (k-2)) / 2^10))))<|oW (Instr.indexAt 285 (pt (nb r2 0)) (vn k)) (jp (nb r2 0) k) (aC (n:=(k:Int)) (i:=k) underlying285 sizeOf24 om)<|oStc 1 24 (nb r2 0) k C3 (C3.setIfInBounds k (vu (add32 (add32 (add32 (wN X (k-16)) (((aA (wN X (k-15)) 7)^^^(aA (wN X (k-15)) 18))^^^((wN X (k-15)) / 2^3))) (wN X (k-7))) (((aA (wN X (k-2)) 17)^^^(aA (wN X (k-2)) 19))^^^((wN X (k-2)) / 2^10))))) 285 (vu (add32 (add32 (add32 (wN X (k-16)) (((aA (wN X (k-15)) 7)^^^(aA (wN X (k-15)) 18))^^^((wN X (k-15)) / 2^3))) (wN X (k-7))) (((aA (wN X (k-2)) 17)^^^(aA (wN X (k-2)) 19))^^^((wN X (k-2)) / 2^10)))) sizeOf24 (by rw [hC3,dX];omega) rfl<|cN) (bK (aI (vY f285 3 [2,3,5] [] [vn k,vn (k+1),vn (k+1)] [] (jY 1<|pM (dE k 1 om)<|jX 1) (?_))))))))))
  exact mN (k+1,C3.setIfInBounds k (vu (add32 (add32 (add32 (wN X (k-16)) (((aA (wN X (k-15)) 7)^^^(aA (wN X (k-15)) 18))^^^((wN X (k-15)) / 2^3))) (wN X (k-7))) (((aA (wN X (k-2)) 17)^^^(aA (wN X (k-2)) 19))^^^((wN X (k-2)) / 2^10))))) (by show 64-(k+1)<64-k;omega) (⟨om,by rw [hC3];exact tc_set (wN_more hk.1).symm⟩) []
 rw [h2]
 refine eF (aO (aO (bU ?_)))
 rw [hC3]
 refine aI (pO f285 2 [2] [1,0] [.agg (bG .u32 64 (tc X k)),undef] [(1,(oK 0 (nb r1 1) (cL (bG .u32 64 (tc X k)) 285)))] (jE [[1],[0]]) (gQ ?_))
 exact mR (v:=(.agg (bG .u32 64 (tc X k)))) (fun _ hS=>⟨congrArg Ending.returned (congrArg Value.agg (tc_end (oA (yF h2)))),hS.bel⟩)
theorem rconst_any  (w0:World):Calls prog 286 #[] w0 (jR (.agg (bG .u32 64 kN)) w0):=by
 refine Calls.cW 2 (fun _=>True) func286 rfl rfl rfl jT (sS f286 1 [0] [] (fun r=>[pt (nb r 0)]) (fun r=>[(0,(nw r 0 (cL (bG .u32 64 (fun _=>0)) 285)))]) (jX 1) (fun r1=>pO f286 2 [0] [] [.agg #[.int .u32 1116352408,.int .u32 1899447441,.int .u32 3049323471,.int .u32 3921009573,.int .u32 961987163,.int .u32 1508970993,.int .u32 2453635748,.int .u32 2870763221,.int .u32 3624381080,.int .u32 310598401,.int .u32 607225278,.int .u32 1426881987,.int .u32 1925078388,.int .u32 2162078206,.int .u32 2614888103,.int .u32 3248222580,.int .u32 3835390401,.int .u32 4022224774,.int .u32 264347078,.int .u32 604807628,.int .u32 770255983,.int .u32 1249150122,.int .u32 1555081692,.int .u32 1996064986,.int .u32 2554220882,.int .u32 2821834349,.int .u32 2952996808,.int .u32 3210313671,.int .u32 3336571891,.int .u32 3584528711,.int .u32 113926993,.int .u32 338241895,.int .u32 666307205,.int .u32 773529912,.int .u32 1294757372,.int .u32 1396182291,.int .u32 1695183700,.int .u32 1986661051,.int .u32 2177026350,.int .u32 2456956037,.int .u32 2730485921,.int .u32 2820302411,.int .u32 3259730800,.int .u32 3345764771,.int .u32 3516065817,.int .u32 3600352804,.int .u32 4094571909,.int .u32 275423344,.int .u32 430227734,.int .u32 506948616,.int .u32 659060556,.int .u32 883997877,.int .u32 958139571,.int .u32 1322822218,.int .u32 1537002063,.int .u32 1747873779,.int .u32 1955562222,.int .u32 2024104815,.int .u32 2227730452,.int .u32 2361852424,.int .u32 2428436474,.int .u32 2756734187,.int .u32 3204031479,.int .u32 3329325298],undef] [(1,(oK 0 (nb r1 0) (cL #[.int .u32 1116352408,.int .u32 1899447441,.int .u32 3049323471,.int .u32 3921009573,.int .u32 961987163,.int .u32 1508970993,.int .u32 2453635748,.int .u32 2870763221,.int .u32 3624381080,.int .u32 310598401,.int .u32 607225278,.int .u32 1426881987,.int .u32 1925078388,.int .u32 2162078206,.int .u32 2614888103,.int .u32 3248222580,.int .u32 3835390401,.int .u32 4022224774,.int .u32 264347078,.int .u32 604807628,.int .u32 770255983,.int .u32 1249150122,.int .u32 1555081692,.int .u32 1996064986,.int .u32 2554220882,.int .u32 2821834349,.int .u32 2952996808,.int .u32 3210313671,.int .u32 3336571891,.int .u32 3584528711,.int .u32 113926993,.int .u32 338241895,.int .u32 666307205,.int .u32 773529912,.int .u32 1294757372,.int .u32 1396182291,.int .u32 1695183700,.int .u32 1986661051,.int .u32 2177026350,.int .u32 2456956037,.int .u32 2730485921,.int .u32 2820302411,.int .u32 3259730800,.int .u32 3345764771,.int .u32 3516065817,.int .u32 3600352804,.int .u32 4094571909,.int .u32 275423344,.int .u32 430227734,.int .u32 506948616,.int .u32 659060556,.int .u32 883997877,.int .u32 958139571,.int .u32 1322822218,.int .u32 1537002063,.int .u32 1747873779,.int .u32 1955562222,.int .u32 2024104815,.int .u32 2227730452,.int .u32 2361852424,.int .u32 2428436474,.int .u32 2756734187,.int .u32 3204031479,.int .u32 3329325298] 285)))] (jE [[],[0]]) (gQ ?_)))
 exact mR (v:=(.agg #[.int .u32 1116352408,.int .u32 1899447441,.int .u32 3049323471,.int .u32 3921009573,.int .u32 961987163,.int .u32 1508970993,.int .u32 2453635748,.int .u32 2870763221,.int .u32 3624381080,.int .u32 310598401,.int .u32 607225278,.int .u32 1426881987,.int .u32 1925078388,.int .u32 2162078206,.int .u32 2614888103,.int .u32 3248222580,.int .u32 3835390401,.int .u32 4022224774,.int .u32 264347078,.int .u32 604807628,.int .u32 770255983,.int .u32 1249150122,.int .u32 1555081692,.int .u32 1996064986,.int .u32 2554220882,.int .u32 2821834349,.int .u32 2952996808,.int .u32 3210313671,.int .u32 3336571891,.int .u32 3584528711,.int .u32 113926993,.int .u32 338241895,.int .u32 666307205,.int .u32 773529912,.int .u32 1294757372,.int .u32 1396182291,.int .u32 1695183700,.int .u32 1986661051,.int .u32 2177026350,.int .u32 2456956037,.int .u32 2730485921,.int .u32 2820302411,.int .u32 3259730800,.int .u32 3345764771,.int .u32 3516065817,.int .u32 3600352804,.int .u32 4094571909,.int .u32 275423344,.int .u32 430227734,.int .u32 506948616,.int .u32 659060556,.int .u32 883997877,.int .u32 958139571,.int .u32 1322822218,.int .u32 1537002063,.int .u32 1747873779,.int .u32 1955562222,.int .u32 2024104815,.int .u32 2227730452,.int .u32 2361852424,.int .u32 2428436474,.int .u32 2756734187,.int .u32 3204031479,.int .u32 3329325298])) (fun _ hS=>⟨by kernel_rfl,hS.bel⟩)
theorem rcompress_any (s0:Nat) (s1:Nat) (s2:Nat) (s3:Nat) (s4:Nat) (s5:Nat) (s6:Nat) (s7:Nat) (X:LU) (hs:ok8 (s0,s1,s2,s3,s4,s5,s6,s7)) (hX:X.length=64) (w0:World):Calls prog 249 #[.agg #[vu s0,vu s1,vu s2,vu s3,vu s4,vu s5,vu s6,vu s7],.agg (bs X).toArray] w0 (jR (.agg #[vu ((eP (s0,s1,s2,s3,s4,s5,s6,s7) X).1),vu ((eP (s0,s1,s2,s3,s4,s5,s6,s7) X).2.1),vu ((eP (s0,s1,s2,s3,s4,s5,s6,s7) X).2.2.1),vu ((eP (s0,s1,s2,s3,s4,s5,s6,s7) X).2.2.2.1),vu ((eP (s0,s1,s2,s3,s4,s5,s6,s7) X).2.2.2.2.1),vu ((eP (s0,s1,s2,s3,s4,s5,s6,s7) X).2.2.2.2.2.1),vu ((eP (s0,s1,s2,s3,s4,s5,s6,s7) X).2.2.2.2.2.2.1),vu ((eP (s0,s1,s2,s3,s4,s5,s6,s7) X).2.2.2.2.2.2.2)]) w0):=by
 refine Calls.cW 133 (fun _=>True) func249 rfl rfl rfl jT (sS f249 3 [2,3,4] [] (fun r=>[pt (nb r 0),pt (nb r 1),pt (nb r 2)]) (fun r=>[(0,(nw r 0 (cL #[vu s0,vu s1,vu s2,vu s3,vu s4,vu s5,vu s6,vu s7] 245))),(1,(nw r 1 (cL (bs X).toArray 247))),(2,(nw r 2 (cL #[.int .u32 0,.int .u32 0,.int .u32 0,.int .u32 0,.int .u32 0,.int .u32 0,.int .u32 0,.int .u32 0] 245)))]) (jX 3) (fun r1=>sS f249 7 [2,4,5,6] [1,0,1,1,1] (fun r=>[.agg (bs X).toArray,.agg (bG .u32 64 (wN X)),.agg (bG .u32 64 kN),pt (nb r 3),pt (nb r 4),undef,undef]) (fun r=>[(3,(nw r 3 (cL (bG .u32 64 (fun _=>0)) 285))),(4,(nw r 4 (cL (bG .u32 64 (fun _=>0)) 285))),(5,(oK 27 (nb r 3) (cL (bG .u32 64 (wN X)) 285))),(6,(oK 35 (nb r 4) (cL (bG .u32 64 kN) 285)))]) (qFc (fun hG=>sW isAgg247 sizeOf247 (hG.kn (g:=nb r1 1) (o:=(cL (bs X).toArray 247)) 1) (by simp [bs,hX]))<|cCc (rsched_any X hX)<|cCc rconst_any<|jE [[],[],[27],[35]]) (fun r2=>sDc f249 [0,1,0,4,0,16,0,64,0,256,0,1024,0,4096,0,16384,3,65551,196671,459007,984063,2035711,4145151,8388607] 24 [2,4,5,6,7,8,9,10,11,12,13,14] [] [pt (nb r1 0),vu s0,jp (nb r1 0) 1,vu s1,jp (nb r1 0) 2,vu s2,jp (nb r1 0) 3,vu s3,jp (nb r1 0) 4,vu s4,jp (nb r1 0) 5,vu s5,jp (nb r1 0) 6,vu s6,jp (nb r1 0) 7,vu s7,vu s0,vu s1,vu s2,vu s3,vu s4,vu s5,vu s6,vu s7] [] (jE [[],[0],[],[0],[],[0],[],[0],[],[0],[],[0],[],[0],[],[0],[],[],[],[],[],[],[],[]]) (aU (jJ f249 1 [2,4,5,6,7,8,9,10,11,12,13,14,15] [vi 0] (aY ?_))))))
 refine oL (σ:=Nat × Nat × Nat × Nat × Nat × Nat × Nat × Nat × Nat) (fun ⟨i,ra,rb,rc,rd,re,rf,rg,rh⟩=>[(2,(pt (nb r1 0))),(4,(pt (nb r1 2))),(5,(pt (nb r2 3))),(6,(pt (nb r2 4))),(7,(vu ra)),(8,(vu rb)),(9,(vu rc)),(10,(vu rd)),(11,(vu re)),(12,(vu rf)),(13,(vu rg)),(14,(vu rh)),(15,(vn i))]) (fun ⟨_,_,_,_,_,_,_,_,_⟩=>[(nb r1 0,(cL #[vu s0,vu s1,vu s2,vu s3,vu s4,vu s5,vu s6,vu s7] 245)),(nb r1 2,(cL #[.int .u32 0,.int .u32 0,.int .u32 0,.int .u32 0,.int .u32 0,.int .u32 0,.int .u32 0,.int .u32 0] 245)),(nb r2 3,(cL (bG .u32 64 (wN X)) 285)),(nb r2 4,(cL (bG .u32 64 kN) 285))]) (fun ⟨i,_,_,_,_,_,_,_,_⟩=>64-i)
  (fun ⟨i,ra,rb,rc,rd,re,rf,rg,rh⟩=>(i<=64)/\(rnds X (s0,s1,s2,s3,s4,s5,s6,s7) i=(ra,rb,rc,rd,re,rf,rg,rh))) (0,s0,s1,s2,s3,s4,s5,s6,s7) (⟨by decide,rfl⟩) [] ?_
 rintro ⟨i,ra,rb,rc,rd,re,rf,rg,rh⟩ ⟨hi,hr⟩
 have ho:ok8 (ra,rb,rc,rd,re,rf,rg,rh):=hr ▸ rnds_ok hs i
 refine aU (jJ f249 2 [2,4,5,6,7,8,9,10,11,12,13,14,15,38] [vn i,.bool (decide ((i:Int)<64))] (oC (decide ((i:Int)<64)) (fun b1=>?_) (fun b1=>?_)))
 ·rw [b1]
  have:=yT b1
  refine dM (aI (aU (aY (sDc f249 [0,0,2,0,14,30,0,94,254,511,0,0,3072,0,8192,0,57344,130048,262143,0,524288,1572864,4194303,0,8388608,25165824,67108863,134217727] 28 [2,4,5,6,7,8,9,10,11,12,13,14,15,16] [] (let qa:=add32 (add32 rh (((aA re 6)^^^(aA re 11))^^^(aA re 25))) ((re&&&rf)^^^((dG re)&&&rg));let qb:=vu (add32 (add32 qa (kN i)) (wN X i));[vu rh,vu re,vu (aA re 6),vu re,vu (aA re 11),vu ((aA re 6)^^^(aA re 11)),vu re,vu (aA re 25),vu (((aA re 6)^^^(aA re 11))^^^(aA re 25)),vu (add32 rh (((aA re 6)^^^(aA re 11))^^^(aA re 25))),vu re,vu rf,vu (re&&&rf),vu re,vu (dG re),vu rg,vu ((dG re)&&&rg),vu ((re&&&rf)^^^((dG re)&&&rg)),vu qa,vn i,jp (nb r2 4) i,vu (kN i),vu (add32 qa (kN i)),vn i,jp (nb r2 3) i,vu (wN X i),qb,qb]) [] (jY 2<|cCc (iM re 6 ho.2.2.2.2.1 dC)<|jY 1<|cCc (iM re 11 ho.2.2.2.2.1 dC)<|cA (v:=fun r=>(.int .u32 (bits .xor .u32 (aA re 6:Int) (aA re 11:Int)))) (fun _=>(vu ((aA re 6)^^^(aA re 11)))) (fun _=>jN (jL (bF _ ho.2.2.2.2.1) (bF _ ho.2.2.2.2.1)))<|jY 1<|cCc (iM re 25 ho.2.2.2.2.1 dC)<|cA (v:=fun r=>(.int .u32 (bits .xor .u32 (((aA re 6)^^^(aA re 11):Nat):Int) (aA re 25:Int)))) (fun _=>(vu (((aA re 6)^^^(aA re 11))^^^(aA re 25)))) (fun _=>jN (jL (kT (bF _ ho.2.2.2.2.1) (bF _ ho.2.2.2.2.1)) (bF _ ho.2.2.2.2.1)))<|kE (vu (add32 rh (((aA re 6)^^^(aA re 11))^^^(aA re 25)))) (jN (aQ rh (((aA re 6)^^^(aA re 11))^^^(aA re 25))))<|jY 2<|kE (vu (re&&&rf)) (jN (vU ho.2.2.2.2.1 ho.2.2.2.2.2.1))<|jY 1<|kE (vu (dG re)) (jN (not_xor32 ho.2.2.2.2.1))<|jY 1<|cA (v:=fun r=>(.int .u32 (bits .and .u32 ((dG re:Nat):Int) (rg:Int)))) (fun _=>(vu ((dG re)&&&rg))) (fun _=>jN (vU (x8 _) ho.2.2.2.2.2.2.1))<|cA (v:=fun r=>(.int .u32 (bits .xor .u32 ((re&&&rf:Nat):Int) (((dG re)&&&rg:Nat):Int)))) (fun _=>(vu ((re&&&rf)^^^((dG re)&&&rg)))) (fun _=>jN (jL (gW _ ho.2.2.2.2.1) (gW _ (x8 _))))<|kE (vu (add32 (add32 rh (((aA re 6)^^^(aA re 11))^^^(aA re 25))) ((re&&&rf)^^^((dG re)&&&rg)))) (jN (aQ (add32 rh (((aA re 6)^^^(aA re 11))^^^(aA re 25))) ((re&&&rf)^^^((dG re)&&&rg))))<|jY 1<|oW (Instr.indexAt 285 (pt (nb r2 4)) (vn i)) (jp (nb r2 4) i) (aC (n:=(i:Int)) (i:=i) underlying285 sizeOf24 om)<|lG 3 24 (nb r2 4) i (bG .u32 64 kN) 285 (vu (kN i)) isAgg24 (kC_get om)<|kE (vu (add32 (add32 (add32 rh (((aA re 6)^^^(aA re 11))^^^(aA re 25))) ((re&&&rf)^^^((dG re)&&&rg))) (kN i))) (jN (aQ (add32 (add32 rh (((aA re 6)^^^(aA re 11))^^^(aA re 25))) ((re&&&rf)^^^((dG re)&&&rg))) (kN i)))<|jY 1<|oW (Instr.indexAt 285 (pt (nb r2 3)) (vn i)) (jp (nb r2 3) i) (aC (n:=(i:Int)) (i:=i) underlying285 sizeOf24 om)<|lG 2 24 (nb r2 3) i (bG .u32 64 (wN X)) 285 (vu (wN X i)) isAgg24 (nX om)<|kE (vu (add32 (add32 (add32 (add32 rh (((aA re 6)^^^(aA re 11))^^^(aA re 25))) ((re&&&rf)^^^((dG re)&&&rg))) (kN i)) (wN X i))) (jN (aQ (add32 (add32 (add32 rh (((aA re 6)^^^(aA re 11))^^^(aA re 25))) ((re&&&rf)^^^((dG re)&&&rg))) (kN i)) (wN X i)))<|jX 1) (pO f249 21 [2,4,5,6,7,8,9,10,11,12,13,14,15,16,17] [] (let qa:=vu (add32 (((aA ra 2)^^^(aA ra 13))^^^(aA ra 22)) (((ra&&&rb)^^^(ra&&&rc))^^^(rb&&&rc)));[vu ra,vu (aA ra 2),vu ra,vu (aA ra 13),vu ((aA ra 2)^^^(aA ra 13)),vu ra,vu (aA ra 22),vu (((aA ra 2)^^^(aA ra 13))^^^(aA ra 22)),vu ra,vu rb,vu (ra&&&rb),vu ra,vu rc,vu (ra&&&rc),vu ((ra&&&rb)^^^(ra&&&rc)),vu rb,vu rc,vu (rb&&&rc),vu (((ra&&&rb)^^^(ra&&&rc))^^^(rb&&&rc)),qa,qa]) [] (jY 1<|cCc (iM ra 2 ho.1 dC)<|jY 1<|cCc (iM ra 13 ho.1 dC)<|cA (v:=fun r=>(.int .u32 (bits .xor .u32 (aA ra 2:Int) (aA ra 13:Int)))) (fun _=>(vu ((aA ra 2)^^^(aA ra 13)))) (fun _=>jN (jL (bF _ ho.1) (bF _ ho.1)))<|jY 1<|cCc (iM ra 22 ho.1 dC)<|cA (v:=fun r=>(.int .u32 (bits .xor .u32 (((aA ra 2)^^^(aA ra 13):Nat):Int) (aA ra 22:Int)))) (fun _=>(vu (((aA ra 2)^^^(aA ra 13))^^^(aA ra 22)))) (fun _=>jN (jL (kT (bF _ ho.1) (bF _ ho.1)) (bF _ ho.1)))<|jY 2<|kE (vu (ra&&&rb)) (jN (vU ho.1 ho.2.1))<|jY 2<|kE (vu (ra&&&rc)) (jN (vU ho.1 ho.2.2.1))<|cA (v:=fun r=>(.int .u32 (bits .xor .u32 ((ra&&&rb:Nat):Int) ((ra&&&rc:Nat):Int)))) (fun _=>(vu ((ra&&&rb)^^^(ra&&&rc)))) (fun _=>jN (jL (gW _ ho.1) (gW _ ho.1)))<|jY 2<|kE (vu (rb&&&rc)) (jN (vU ho.2.1 ho.2.2.1))<|cA (v:=fun r=>(.int .u32 (bits .xor .u32 (((ra&&&rb)^^^(ra&&&rc):Nat):Int) ((rb&&&rc:Nat):Int)))) (fun _=>(vu (((ra&&&rb)^^^(ra&&&rc))^^^(rb&&&rc)))) (fun _=>jN (jL (kT (gW _ ho.1) (gW _ ho.1)) (gW _ ho.2.1)))<|kE (vu (add32 (((aA ra 2)^^^(aA ra 13))^^^(aA ra 22)) (((ra&&&rb)^^^(ra&&&rc))^^^(rb&&&rc)))) (jN (aQ (((aA ra 2)^^^(aA ra 13))^^^(aA ra 22)) (((ra&&&rb)^^^(ra&&&rc))^^^(rb&&&rc))))<|jX 1) (vY f249 20 [2,4,5,6,7,8,9,10,11,12,13,14,15] [] (let qa:=add32 (add32 (add32 (add32 rh (((aA re 6)^^^(aA re 11))^^^(aA re 25))) ((re&&&rf)^^^((dG re)&&&rg))) (kN i)) (wN X i);let qb:=add32 (((aA ra 2)^^^(aA ra 13))^^^(aA ra 22)) (((ra&&&rb)^^^(ra&&&rc))^^^(rb&&&rc));[vu rg,vu rf,vu re,vu rd,vu qa,vu (add32 rd qa),vu rc,vu rb,vu ra,vu qa,vu qb,vu (add32 qa qb),vu rg,vu rf,vu re,vu (add32 rd qa),vu rc,vu rb,vu ra,vu (add32 qa qb)]) [] (jY 5<|kE (vu (add32 rd (add32 (add32 (add32 (add32 rh (((aA re 6)^^^(aA re 11))^^^(aA re 25))) ((re&&&rf)^^^((dG re)&&&rg))) (kN i)) (wN X i)))) (jN (aQ rd (add32 (add32 (add32 (add32 rh (((aA re 6)^^^(aA re 11))^^^(aA re 25))) ((re&&&rf)^^^((dG re)&&&rg))) (kN i)) (wN X i))))<|jY 5<|kE (vu (add32 (add32 (add32 (add32 (add32 rh (((aA re 6)^^^(aA re 11))^^^(aA re 25))) ((re&&&rf)^^^((dG re)&&&rg))) (kN i)) (wN X i)) (add32 (((aA ra 2)^^^(aA ra 13))^^^(aA ra 22)) (((ra&&&rb)^^^(ra&&&rc))^^^(rb&&&rc))))) (jN (aQ (add32 (add32 (add32 (add32 rh (((aA re 6)^^^(aA re 11))^^^(aA re 25))) ((re&&&rf)^^^((dG re)&&&rg))) (kN i)) (wN X i)) (add32 (((aA ra 2)^^^(aA ra 13))^^^(aA ra 22)) (((ra&&&rb)^^^(ra&&&rc))^^^(rb&&&rc)))))<|jX 8) (bK (aI (vY f249 3 [2,4,5,6,7,8,9,10,11,12,13,14,15] [] [vn i,vn (i+1),vn (i+1)] [] (jY 1<|pM (dE i 1 om)<|jX 1) (?_))))))))))
  exact mN (i+1,add32 (add32 (add32 (add32 (add32 rh (((aA re 6)^^^(aA re 11))^^^(aA re 25))) ((re&&&rf)^^^((dG re)&&&rg))) (kN i)) (wN X i)) (add32 (((aA ra 2)^^^(aA ra 13))^^^(aA ra 22)) (((ra&&&rb)^^^(ra&&&rc))^^^(rb&&&rc))),ra,rb,rc,add32 rd (add32 (add32 (add32 (add32 rh (((aA re 6)^^^(aA re 11))^^^(aA re 25))) ((re&&&rf)^^^((dG re)&&&rg))) (kN i)) (wN X i)),re,rf,rg) (by show 64-(i+1)<64-i;omega) (⟨om,rnds_next hr⟩) []
 rw [b1]
 refine eF (aO (aO (bU (aI (pO f249 34 [4] [0,1,0,0] [pt (nb r1 0),vu s0,vu ra,vu (add32 s0 ra),jp (nb r1 0) 1,vu s1,vu rb,vu (add32 s1 rb),jp (nb r1 0) 2,vu s2,vu rc,vu (add32 s2 rc),jp (nb r1 0) 3,vu s3,vu rd,vu (add32 s3 rd),jp (nb r1 0) 4,vu s4,vu re,vu (add32 s4 re),jp (nb r1 0) 5,vu s5,vu rf,vu (add32 s5 rf),jp (nb r1 0) 6,vu s6,vu rg,vu (add32 s6 rg),jp (nb r1 0) 7,vu s7,vu rh,vu (add32 s7 rh),.agg #[vu (add32 s0 ra),vu (add32 s1 rb),vu (add32 s2 rc),vu (add32 s3 rd),vu (add32 s4 re),vu (add32 s5 rf),vu (add32 s6 rg),vu (add32 s7 rh)],undef] [(33,(oK 1 (nb r1 2) (cL #[vu (add32 s0 ra),vu (add32 s1 rb),vu (add32 s2 rc),vu (add32 s3 rd),vu (add32 s4 re),vu (add32 s5 rf),vu (add32 s6 rg),vu (add32 s7 rh)] 245)))] (cR [[],[0],[]]<|kE (vu (add32 s0 ra)) (jN (aQ s0 ra))<|cR [[],[0],[]]<|kE (vu (add32 s1 rb)) (jN (aQ s1 rb))<|cR [[],[0],[]]<|kE (vu (add32 s2 rc)) (jN (aQ s2 rc))<|cR [[],[0],[]]<|kE (vu (add32 s3 rd)) (jN (aQ s3 rd))<|cR [[],[0],[]]<|kE (vu (add32 s4 re)) (jN (aQ s4 re))<|cR [[],[0],[]]<|kE (vu (add32 s5 rf)) (jN (aQ s5 rf))<|cR [[],[0],[]]<|kE (vu (add32 s6 rg)) (jN (aQ s6 rg))<|cR [[],[0],[]]<|kE (vu (add32 s7 rh)) (jN (aQ s7 rh))<|jE [[],[1]]) (gQ ?_))))))
 exact mR (v:=(.agg #[vu (add32 s0 ra),vu (add32 s1 rb),vu (add32 s2 rc),vu (add32 s3 rd),vu (add32 s4 re),vu (add32 s5 rf),vu (add32 s6 rg),vu (add32 s7 rh)])) (fun _ hS=>⟨congrArg Ending.returned (by rw [cmp_end hr (show i=64 by have:=yF b1;omega)]),hS.bel⟩)
theorem rinitial_any  (w0:World):Calls prog 248 #[] w0 (jR (.agg #[.int .u32 1779033703,.int .u32 3144134277,.int .u32 1013904242,.int .u32 2773480762,.int .u32 1359893119,.int .u32 2600822924,.int .u32 528734635,.int .u32 1541459225]) w0):=by
 refine Calls.cW 2 (fun _=>True) func248 rfl rfl rfl jT (sS f248 1 [0] [] (fun r=>[pt (nb r 0)]) (fun r=>[(0,(nw r 0 (cL #[.int .u32 0,.int .u32 0,.int .u32 0,.int .u32 0,.int .u32 0,.int .u32 0,.int .u32 0,.int .u32 0] 245)))]) (jX 1) (fun r1=>pO f248 2 [0] [] [.agg #[.int .u32 1779033703,.int .u32 3144134277,.int .u32 1013904242,.int .u32 2773480762,.int .u32 1359893119,.int .u32 2600822924,.int .u32 528734635,.int .u32 1541459225],undef] [(1,(oK 0 (nb r1 0) (cL #[.int .u32 1779033703,.int .u32 3144134277,.int .u32 1013904242,.int .u32 2773480762,.int .u32 1359893119,.int .u32 2600822924,.int .u32 528734635,.int .u32 1541459225] 245)))] (jE [[],[0]]) (gQ ?_)))
 exact mR (v:=(.agg #[.int .u32 1779033703,.int .u32 3144134277,.int .u32 1013904242,.int .u32 2773480762,.int .u32 1359893119,.int .u32 2600822924,.int .u32 528734635,.int .u32 1541459225])) (fun _ hS=>⟨rfl,hS.bel⟩)
theorem rsum_any (a:OA) (c:Nat) (B:LU) (h0:0<B.length) (hl:B.length+73<=140737488351232) (w0:World) (hf0:Bs w0 a c B):Calls prog 198 #[.slice a B.length c] w0 (jR (.agg (hB (shaN B))) w0):=by
 refine Calls.cW 66 (fun w=>Bs w a c B/\True) func198 rfl rfl rfl (hf0.pers0.and persT) (sS f198 1 [0,2] [] (fun r=>[pt (nb r 0)]) (fun r=>[(0,(nw r 0 (cL (hB 0) 26)))]) (jX 1) (fun r1=>sSf f198 8 [2,3] [] (fun r=>let qa:=vs (nb r 6) (B++(aK B.length)).length (vI r 6);[.slice a B.length c,vs (nb r 1) B.length (B.length+vI r 1),.slice a B.length c,vn B.length,vx B.length,.slice (oa r 5) (aK B.length).length (nb r 5),qa,qa]) (fun r=>[(1,(nw r 1 (cL ((bs B).toArray++zB (vI r 1)) 5))),(6,(oK 9 (nb r 6) (cL (oc r 6) 5)))]) (fun r=>[(5,fun w=>Fs w0 w (oa r 5) (nb r 5) (aK B.length)),(6,fun w=>Ap (oc r 6) (B++(aK B.length)) (vI r 6))]) (fun r=>(fun w=>Bs w a c B/\Fs w0 w (oa r 5) (nb r 5) (aK B.length)/\True)) (fun r=>Ap (oc r 6) (B++(aK B.length)) (vI r 6)) (fun _ _ hF hf=>⟨⟨hF.1,hf 5,trivial⟩,hf 6⟩) (jY 1<|cX (qN (fun _ ζ=>(vs (ζ.headD 0) B.length (B.length+ζ.tail.headD 0))) (fun _ ζ=>(cL ((bs B).toArray++zB (ζ.tail.headD 0)) 5)) (fun _ _ _ hG=>app_nilL (ty:=22) underlying22 u8i (Bs.src (tx:=22) underlying22 hG.fn.1) h0 (oB (aN B) (aB B.length))))<|jY 2<|cA (v:=fun r=>(.int .u64 (IntKind.u64.wrap (B.length:Int)))) (fun _=>(vx B.length)) (fun _=>congrArg (Value.int .u64) (u64N (oB (aN B) (aB B.length))))<|qBc (fun _=>rpad_any B.length (oB (aN B) (aB B.length)) _)<|cX (qM 9 (fun r _ w hG hg=>app_any (ty:=22) (g:=nb r 1) (C:=((bs B).toArray++zB (vI r 1))) (c:=B.length+vI r 1) (xs:=B) underlying22 u8i (Ap.mk' (Hd.fresh _ _) (Nat.le_add_right _ _) (oB (aN B) (aB B.length)) (fresh_size _ _)) (Bs.src (tx:=22) underlying22 (show Fs w0 w (oa r 5) (nb r 5) (aK B.length) from (hG.facts 5 rfl).now).1) (oB (nZ B.length) (aB B.length)) hg))<|jX 1) (fun r2 ap2_6=>sS f198 3 [2,3,4] [] (fun r=>[.agg #[.int .u32 1779033703,.int .u32 3144134277,.int .u32 1013904242,.int .u32 2773480762,.int .u32 1359893119,.int .u32 2600822924,.int .u32 528734635,.int .u32 1541459225],pt (nb r 1),undef]) (fun r=>[(1,(nw r 1 (cL #[.int .u32 0,.int .u32 0,.int .u32 0,.int .u32 0,.int .u32 0,.int .u32 0,.int .u32 0,.int .u32 0] 245))),(2,(oK 10 (nb r 1) (cL #[.int .u32 1779033703,.int .u32 3144134277,.int .u32 1013904242,.int .u32 2773480762,.int .u32 1359893119,.int .u32 2600822924,.int .u32 528734635,.int .u32 1541459225] 245)))]) (cCc rinitial_any<|jE [[],[10]]) (fun r3=>aU (jJ f198 1 [2,3,4,5] [vi 0] (aY ?_))))))
 refine oL (σ:=Nat × Nat × Nat × Nat × Nat × Nat × Nat × Nat × Nat) (fun ⟨i,_,_,_,_,_,_,_,_⟩=>[(2,(pt (nb r1 0))),(3,(vs (nb r2 6) (B++(aK B.length)).length (vI r2 6))),(4,(pt (nb r3 1))),(5,(vn (64*i)))]) (fun ⟨_,t0,t1,t2,t3,t4,t5,t6,t7⟩=>[(nb r1 0,(cL (hB 0) 26)),(nb r2 6,(cL (oc r2 6) 5)),(nb r3 1,(cL #[vu t0,vu t1,vu t2,vu t3,vu t4,vu t5,vu t6,vu t7] 245))]) (fun ⟨i,_,_,_,_,_,_,_,_⟩=>(B++(aK B.length)).length / 64-i)
  (fun ⟨i,t0,t1,t2,t3,t4,t5,t6,t7⟩=>(i<=(B++(aK B.length)).length / 64)/\(rM (B++(aK B.length)) i=(t0,t1,t2,t3,t4,t5,t6,t7))) (0,1779033703,3144134277,1013904242,2773480762,1359893119,2600822924,528734635,1541459225) (⟨Nat.zero_le _,rfl⟩) [] ?_
 rintro ⟨i,t0,t1,t2,t3,t4,t5,t6,t7⟩ ⟨hi,hQ⟩
 refine aU (pO f198 5 [2,3,4,5,22] [] [vn (64*i),vn (64*(i+1)),vs (nb r2 6) (B++(aK B.length)).length (vI r2 6),vn (B++(aK B.length)).length,.bool (decide (((64*(i+1):Nat):Int)<=(((B++(aK B.length)).length:Nat):Int)))] [] (jY 1<|jWc (((64*i:Nat):Int)+64) (64*(i+1)) ((i64N (oB (aN B) (aB B.length))).trans om)<|jX 3) (oC (decide (((64*(i+1):Nat):Int)<=(((B++(aK B.length)).length:Nat):Int))) (fun y1=>?_) (fun y1=>?_)))
 ·rw [y1]
  have:=yT y1
  refine dM (aI (aU (aY (sS f198 1 [2,3,4,5,6] [] (fun r=>[pt (nb r 0)]) (fun r=>[(0,(nw r 0 (cL (bG .u8 64 (fun _=>0)) 247)))]) (jX 1) (fun r6=>sDc f198 [0,0,0,6,15] 5 [2,3,4,5,6] [] (let qa:=mid (B++(aK B.length)) (64*i) (B++(aK B.length)).length;[vs (nb r6 0) 64 64,vs (nb r2 6) (B++(aK B.length)).length (vI r2 6),vn (64*i),.slice (wB (some ⟨nb r2 6,0,none⟩) (64*i) (vI r2 6)) qa.length ((vI r2 6)-(64*i)),vn (Nat.min qa.length 64)]) [(4,(oK 3 (nb r6 0) (cL (bs ((mid (B++(aK B.length)) (64*i) (B++(aK B.length)).length).take 64)).toArray 247)))] (jY 3<|cX (jF (fun _=>Instr.sliceAt 22 (vs (nb r2 6) (B++(aK B.length)).length (vI r2 6)) (some (vn (64*i))) none none) (fun _=>(.slice (wB (some ⟨nb r2 6,0,none⟩) (64*i) (vI r2 6)) (mid (B++(aK B.length)) (64*i) (B++(aK B.length)).length).length ((vI r2 6)-(64*i)))) (fun _ _ _ hG=>slice_bytes (l:=64*i) (k:=(B++(aK B.length)).length) underlying22 u8i (Bs.of_hd (hG.kn (g:=nb r2 6) (o:=(cL (oc r2 6) 5)) 1) ap2_6.hd ap2_6.le ap2_6.max) rfl (Or.inr (congrArg (fun z=>some (Value.int .i64 z)) (rfl))) (Or.inl ⟨rfl,rfl⟩) (oB (aN B) (aB B.length)) (Nat.le_refl _)) (fun _ _ _ _=>persT))<|cX (o_put1 _ 3 (fun _=>do pure (Next.value (<- Builtin.copy_ #[22,22] 3 #[vs (nb r6 0) 64 64,.slice (wB (some ⟨nb r2 6,0,none⟩) (64*i) (vI r2 6)) (mid (B++(aK B.length)) (64*i) (B++(aK B.length)).length).length ((vI r2 6)-(64*i))]))) (fun _=>nb r6 0) (fun _=>(cL (bG .u8 64 (fun _=>0)) 247)) (fun _=>(cL (bs ((mid (B++(aK B.length)) (64*i) (B++(aK B.length)).length).take 64)).toArray 247)) (fun _=>(vn (Nat.min (mid (B++(aK B.length)) (64*i) (B++(aK B.length)).length).length 64))) (fun _=>kr) (fun _=>kr) (fun _=>kr) (fun _=>kr) tV (fun _ _ _ hG hg=>(by as_aux_lemma=>(rw [<- copy_arr (C:=(bG .u8 64 (fun _=>0))) (dX _ _ _) (by rw [iZ _ _ _ (Nat.le_refl _)];have:=aN B;have:=aB B.length;omega)];exact copy_row underlying22 u8i hg ((Bs.of_hd (hG.kn (g:=nb r2 6) (o:=(cL (oc r2 6) 5)) 1) ap2_6.hd ap2_6.le ap2_6.max).mid (oB (aN B) (aB B.length)) (Nat.le_refl _)) rfl (Nat.le_of_eq (dX _ 64 _).symm)))))<|cN) (vY f198 4 [2,3,4,5] [1,1,1,0] (let qa:=eP (t0,t1,t2,t3,t4,t5,t6,t7) ((mid (B++(aK B.length)) (64*i) (B++(aK B.length)).length).take 64);[.agg #[vu t0,vu t1,vu t2,vu t3,vu t4,vu t5,vu t6,vu t7],.agg (bs ((mid (B++(aK B.length)) (64*i) (B++(aK B.length)).length).take 64)).toArray,.agg #[vu (qa.1),vu (qa.2.1),vu (qa.2.2.1),vu (qa.2.2.2.1),vu (qa.2.2.2.2.1),vu (qa.2.2.2.2.2.1),vu (qa.2.2.2.2.2.2.1),vu (qa.2.2.2.2.2.2.2)],undef]) (let qa:=eP (t0,t1,t2,t3,t4,t5,t6,t7) ((mid (B++(aK B.length)) (64*i) (B++(aK B.length)).length).take 64);[(3,(oK 2 (nb r3 1) (cL #[vu (qa.1),vu (qa.2.1),vu (qa.2.2.1),vu (qa.2.2.2.1),vu (qa.2.2.2.2.1),vu (qa.2.2.2.2.2.1),vu (qa.2.2.2.2.2.2.1),vu (qa.2.2.2.2.2.2.2)] 245)))]) (cR [[2]]<|qFc (fun hG=>sW isAgg247 sizeOf247 (hG.kn (g:=nb r6 0) (o:=(cL (bs ((mid (B++(aK B.length)) (64*i) (B++(aK B.length)).length).take 64)).toArray 247)) 3) (by rw [List.size_toArray,dJ,List.length_take,iZ _ _ _ (Nat.le_refl _)];have:=aN B;have:=aB B.length;omega))<|cC (f:=249) (args:=fun r=> #[.agg #[vu t0,vu t1,vu t2,vu t3,vu t4,vu t5,vu t6,vu t7],.agg (bs ((mid (B++(aK B.length)) (64*i) (B++(aK B.length)).length).take 64)).toArray]) (v:=fun r=>(.agg #[vu ((eP (t0,t1,t2,t3,t4,t5,t6,t7) ((mid (B++(aK B.length)) (64*i) (B++(aK B.length)).length).take 64)).1),vu ((eP (t0,t1,t2,t3,t4,t5,t6,t7) ((mid (B++(aK B.length)) (64*i) (B++(aK B.length)).length).take 64)).2.1),vu ((eP (t0,t1,t2,t3,t4,t5,t6,t7) ((mid (B++(aK B.length)) (64*i) (B++(aK B.length)).length).take 64)).2.2.1),vu ((eP (t0,t1,t2,t3,t4,t5,t6,t7) ((mid (B++(aK B.length)) (64*i) (B++(aK B.length)).length).take 64)).2.2.2.1),vu ((eP (t0,t1,t2,t3,t4,t5,t6,t7) ((mid (B++(aK B.length)) (64*i) (B++(aK B.length)).length).take 64)).2.2.2.2.1),vu ((eP (t0,t1,t2,t3,t4,t5,t6,t7) ((mid (B++(aK B.length)) (64*i) (B++(aK B.length)).length).take 64)).2.2.2.2.2.1),vu ((eP (t0,t1,t2,t3,t4,t5,t6,t7) ((mid (B++(aK B.length)) (64*i) (B++(aK B.length)).length).take 64)).2.2.2.2.2.2.1),vu ((eP (t0,t1,t2,t3,t4,t5,t6,t7) ((mid (B++(aK B.length)) (64*i) (B++(aK B.length)).length).take 64)).2.2.2.2.2.2.2)])) (fun _ w=>(fun w=>rcompress_any t0 t1 t2 t3 t4 t5 t6 t7 ((mid (B++(aK B.length)) (64*i) (B++(aK B.length)).length).take 64) (hQ ▸ uU (B++(aK B.length)) i) (by rw [List.length_take,iZ _ _ _ (Nat.le_refl _)];have:=aN B;have:=aB B.length;omega) w) w)<|jE [[2]]) (bK (aI (vY f198 3 [2,3,4,5] [] [vn (64*i),vn (64*(i+1)),vn (64*(i+1))] [] (jY 1<|jWc (((64*i:Nat):Int)+64) (64*(i+1)) ((i64N (oB (aN B) (aB B.length))).trans om)<|jX 1) (?_))))))))))
  exact mN (i+1,(eP (t0,t1,t2,t3,t4,t5,t6,t7) ((mid (B++(aK B.length)) (64*i) (B++(aK B.length)).length).take 64)).1,(eP (t0,t1,t2,t3,t4,t5,t6,t7) ((mid (B++(aK B.length)) (64*i) (B++(aK B.length)).length).take 64)).2.1,(eP (t0,t1,t2,t3,t4,t5,t6,t7) ((mid (B++(aK B.length)) (64*i) (B++(aK B.length)).length).take 64)).2.2.1,(eP (t0,t1,t2,t3,t4,t5,t6,t7) ((mid (B++(aK B.length)) (64*i) (B++(aK B.length)).length).take 64)).2.2.2.1,(eP (t0,t1,t2,t3,t4,t5,t6,t7) ((mid (B++(aK B.length)) (64*i) (B++(aK B.length)).length).take 64)).2.2.2.2.1,(eP (t0,t1,t2,t3,t4,t5,t6,t7) ((mid (B++(aK B.length)) (64*i) (B++(aK B.length)).length).take 64)).2.2.2.2.2.1,(eP (t0,t1,t2,t3,t4,t5,t6,t7) ((mid (B++(aK B.length)) (64*i) (B++(aK B.length)).length).take 64)).2.2.2.2.2.2.1,(eP (t0,t1,t2,t3,t4,t5,t6,t7) ((mid (B++(aK B.length)) (64*i) (B++(aK B.length)).length).take 64)).2.2.2.2.2.2.2) (by show (B++(aK B.length)).length / 64-(i+1)<(B++(aK B.length)).length / 64-i;have:=aN B;have:=aB B.length;omega) (⟨(oB (aN B) (aB B.length)),sha_next hQ (oB (aN B) (aB B.length))⟩) []
 rw [y1]
 have:=yF y1
 refine eF (aO (aO (bU (aI (sS f198 1 [2,4,7] [1,0,1,1] (fun r=>[pt (nb r 0)]) (fun r=>[(0,(nw r 0 (cL (hB 0) 26)))]) (jX 1) (fun r10=>aU (jM f198 2 [2,7,33,34] [1,0,1] [.agg #[vu t0,vu t1,vu t2,vu t3,vu t4,vu t5,vu t6,vu t7],vi 0] [[1],[]] (aY ?_))))))))
 refine oL (σ:=Nat × (Array Value)) (fun ⟨m,_⟩=>[(2,(pt (nb r1 0))),(7,(pt (nb r10 0))),(33,(.agg #[vu t0,vu t1,vu t2,vu t3,vu t4,vu t5,vu t6,vu t7])),(34,(vn m))]) (fun ⟨_,C⟩=>[(nb r1 0,(cL (hB 0) 26)),(nb r10 0,(cL C 26))]) (fun ⟨m,_⟩=>8-m)
  (fun ⟨m,C⟩=>(m<=8)/\(C=bG .u8 32 (wY (t0,t1,t2,t3,t4,t5,t6,t7) (4*m)))) (0,hB 0) (⟨by decide,hB0_row (t0,t1,t2,t3,t4,t5,t6,t7)⟩) [] ?_
 rintro ⟨m,C⟩ ⟨hm,hC⟩
 refine jJ f198 1 [2,7,33,34,35] [.bool (decide ((m:Int)<8))] (aU (oC (decide ((m:Int)<8)) (fun y2=>?_) (fun y2=>?_)))
 ·rw [y2]
  have:=yT y2
  refine dM (aI (aU (aY (pO f198 4 [2,7,8,9,33,34] [] (let qa:=vu (dY (t0,t1,t2,t3,t4,t5,t6,t7) m);[vn m,qa,vn m,qa]) [] (jY 1<|oW (Instr.index 245 (.agg #[vu t0,vu t1,vu t2,vu t3,vu t4,vu t5,vu t6,vu t7]) (vn m)) (vu (dY (t0,t1,t2,t3,t4,t5,t6,t7) m)) (idx_arr8 underlying245 underlying24 sizeOf24 (oB (aN B) (aB B.length)))<|jX 2) (vY f198 30 [2,7,33,34] [] (let qa:=vu (dY (t0,t1,t2,t3,t4,t5,t6,t7) m);[vn m,vn (4*m),vn m,vn (4*m),vn ((4*m)+1),vn m,vn (4*m),vn ((4*m)+2),vn m,vn (4*m),vn ((4*m)+3),qa,vu (dY (t0,t1,t2,t3,t4,t5,t6,t7) m / 2^24),vy (dY (t0,t1,t2,t3,t4,t5,t6,t7) m / 2^24%256),qa,vu (dY (t0,t1,t2,t3,t4,t5,t6,t7) m / 2^16),vy (dY (t0,t1,t2,t3,t4,t5,t6,t7) m / 2^16%256),qa,vu (dY (t0,t1,t2,t3,t4,t5,t6,t7) m / 2^8),vy (dY (t0,t1,t2,t3,t4,t5,t6,t7) m / 2^8%256),qa,vy (dY (t0,t1,t2,t3,t4,t5,t6,t7) m%256),jp (nb r10 0) (4*m),undef,jp (nb r10 0) ((4*m)+1),undef,jp (nb r10 0) ((4*m)+2),undef,jp (nb r10 0) ((4*m)+3),undef]) [(23,(oK 1 (nb r10 0) (cL (bG .u8 32 (wY (t0,t1,t2,t3,t4,t5,t6,t7) (4*m+1))) 26))),(25,(oK 1 (nb r10 0) (cL (bG .u8 32 (wY (t0,t1,t2,t3,t4,t5,t6,t7) (4*m+2))) 26))),(27,(oK 1 (nb r10 0) (cL (bG .u8 32 (wY (t0,t1,t2,t3,t4,t5,t6,t7) (4*m+3))) 26))),(29,(oK 1 (nb r10 0) (cL (bG .u8 32 (wY (t0,t1,t2,t3,t4,t5,t6,t7) (4*(m+1)))) 26)))] (jY 1<|pM (gU 4 m (oB (aN B) (aB B.length)))<|jY 1<|pM (gU 4 m (oB (aN B) (aB B.length)))<|pM (dE (4*m) 1 (oB (aN B) (aB B.length)))<|jY 1<|pM (gU 4 m (oB (aN B) (aB B.length)))<|pM (dE (4*m) 2 (oB (aN B) (aB B.length)))<|jY 1<|pM (gU 4 m (oB (aN B) (aB B.length)))<|pM (dE (4*m) 3 (oB (aN B) (aB B.length)))<|jY 1<|cB (a:=fun r=>(vu (dY (t0,t1,t2,t3,t4,t5,t6,t7) m))) (b:=fun r=>(.int .u64 24)) (v:=fun r=>(vu (dY (t0,t1,t2,t3,t4,t5,t6,t7) m / 2^24))) .shr 24 (fun _ w=>iG (k:=.u32) (x:=dY (t0,t1,t2,t3,t4,t5,t6,t7) m) (c:=24) (sel8_lt (hQ ▸ uU _ i) _) w)<|kE (vy (dY (t0,t1,t2,t3,t4,t5,t6,t7) m / 2^24%256)) (congrArg (Value.int .u8) (u8M (dY (t0,t1,t2,t3,t4,t5,t6,t7) m / 2^24)))<|jY 1<|cB (a:=fun r=>(vu (dY (t0,t1,t2,t3,t4,t5,t6,t7) m))) (b:=fun r=>(.int .u64 16)) (v:=fun r=>(vu (dY (t0,t1,t2,t3,t4,t5,t6,t7) m / 2^16))) .shr 24 (fun _ w=>iG (k:=.u32) (x:=dY (t0,t1,t2,t3,t4,t5,t6,t7) m) (c:=16) (sel8_lt (hQ ▸ uU _ i) _) w)<|kE (vy (dY (t0,t1,t2,t3,t4,t5,t6,t7) m / 2^16%256)) (congrArg (Value.int .u8) (u8M (dY (t0,t1,t2,t3,t4,t5,t6,t7) m / 2^16)))<|jY 1<|cB (a:=fun r=>(vu (dY (t0,t1,t2,t3,t4,t5,t6,t7) m))) (b:=fun r=>(.int .u64 8)) (v:=fun r=>(vu (dY (t0,t1,t2,t3,t4,t5,t6,t7) m / 2^8))) .shr 24 (fun _ w=>iG (k:=.u32) (x:=dY (t0,t1,t2,t3,t4,t5,t6,t7) m) (c:=8) (sel8_lt (hQ ▸ uU _ i) _) w)<|kE (vy (dY (t0,t1,t2,t3,t4,t5,t6,t7) m / 2^8%256)) (congrArg (Value.int .u8) (u8M (dY (t0,t1,t2,t3,t4,t5,t6,t7) m / 2^8)))<|jY 1<|kE (vy (dY (t0,t1,t2,t3,t4,t5,t6,t7) m%256)) (congrArg (Value.int .u8) (u8M (dY (t0,t1,t2,t3,t4,t5,t6,t7) m)))<|oW (Instr.indexAt 26 (pt (nb r10 0)) (vn (4*m))) (jp (nb r10 0) (4*m)) (aC (n:=((4*m:Nat):Int)) (i:=4*m) underlying26 sizeOf5 (oB (aN B) (aB B.length)))<|oStc 1 5 (nb r10 0) (4*m) C (bG .u8 32 (wY (t0,t1,t2,t3,t4,t5,t6,t7) (4*m+1))) 26 (vy (dY (t0,t1,t2,t3,t4,t5,t6,t7) m / 2^24%256)) sizeOf5 (by rw [hC,dX];have:=aN B;have:=aB B.length;omega) (by rw [hC];exact yH (m:=4*m) (by rw [show 4*m / 4=m by omega,show 24-4*m%4*8=24 by omega]))<|oW (Instr.indexAt 26 (pt (nb r10 0)) (vn ((4*m)+1))) (jp (nb r10 0) ((4*m)+1)) (aC (n:=(((4*m)+1:Nat):Int)) (i:=(4*m)+1) underlying26 sizeOf5 (oB (aN B) (aB B.length)))<|oStc 1 5 (nb r10 0) ((4*m)+1) (bG .u8 32 (wY (t0,t1,t2,t3,t4,t5,t6,t7) (4*m+1))) (bG .u8 32 (wY (t0,t1,t2,t3,t4,t5,t6,t7) (4*m+2))) 26 (vy (dY (t0,t1,t2,t3,t4,t5,t6,t7) m / 2^16%256)) sizeOf5 (by rw [dX];have:=aN B;have:=aB B.length;omega) (by exact yH (m:=4*m+1) (by rw [show (4*m+1) / 4=m by omega,show 24-(4*m+1)%4*8=16 by omega]))<|oW (Instr.indexAt 26 (pt (nb r10 0)) (vn ((4*m)+2))) (jp (nb r10 0) ((4*m)+2)) (aC (n:=(((4*m)+2:Nat):Int)) (i:=(4*m)+2) underlying26 sizeOf5 (oB (aN B) (aB B.length)))<|oStc 1 5 (nb r10 0) ((4*m)+2) (bG .u8 32 (wY (t0,t1,t2,t3,t4,t5,t6,t7) (4*m+2))) (bG .u8 32 (wY (t0,t1,t2,t3,t4,t5,t6,t7) (4*m+3))) 26 (vy (dY (t0,t1,t2,t3,t4,t5,t6,t7) m / 2^8%256)) sizeOf5 (by rw [dX];have:=aN B;have:=aB B.length;omega) (by exact yH (m:=4*m+2) (by rw [show (4*m+2) / 4=m by omega,show 24-(4*m+2)%4*8=8 by omega]))<|oW (Instr.indexAt 26 (pt (nb r10 0)) (vn ((4*m)+3))) (jp (nb r10 0) ((4*m)+3)) (aC (n:=(((4*m)+3:Nat):Int)) (i:=(4*m)+3) underlying26 sizeOf5 (oB (aN B) (aB B.length)))<|oStc 1 5 (nb r10 0) ((4*m)+3) (bG .u8 32 (wY (t0,t1,t2,t3,t4,t5,t6,t7) (4*m+3))) (bG .u8 32 (wY (t0,t1,t2,t3,t4,t5,t6,t7) (4*(m+1)))) 26 (vy (dY (t0,t1,t2,t3,t4,t5,t6,t7) m%256)) sizeOf5 (by rw [dX];have:=aN B;have:=aB B.length;omega) (by exact yH (m:=4*m+3) (by rw [show (4*m+3) / 4=m by omega,show 24-(4*m+3)%4*8=0 by omega];simp))<|cN) (bK (aI (vY f198 2 [2,7,33,34] [] [vn (m+1),vn (m+1)] [] (pM (dE m 1 (oB (aN B) (aB B.length)))<|jX 1) (?_)))))))))
  exact mN (m+1,bG .u8 32 (wY (t0,t1,t2,t3,t4,t5,t6,t7) (4*(m+1)))) (by show 8-(m+1)<8-m;have:=aN B;have:=aB B.length;omega) (⟨(oB (aN B) (aB B.length)),rfl⟩) []
 rw [y2]
 refine eF (aO (aO (bU ?_)))
 rw [hC]
 refine aI (pO f198 2 [2] [1,0] [.agg (bG .u8 32 (wY (t0,t1,t2,t3,t4,t5,t6,t7) (4*m))),undef] [(1,(oK 0 (nb r1 0) (cL (bG .u8 32 (wY (t0,t1,t2,t3,t4,t5,t6,t7) (4*m))) 26)))] (qFc (fun hG=>sW isAgg26 sizeOf26 (hG.kn (g:=nb r10 0) (o:=(cL (bG .u8 32 (wY (t0,t1,t2,t3,t4,t5,t6,t7) (4*m))) 26)) 1) (dX _ _ _))<|jE [[0]]) (gQ ?_))
 exact mR (v:=(.agg (bG .u8 32 (wY (t0,t1,t2,t3,t4,t5,t6,t7) (4*m))))) (fun _ hS=>⟨congrArg Ending.returned (congrArg Value.agg ((dgf_end (by have:=yF y2;have:=aN B;have:=aB B.length;omega)).trans (congrArg hB (sha_end hQ (by have:=yF y2;have:=aN B;have:=aB B.length;omega))))),hS.bel⟩)
end Go.Proofs.YtcgdimlbbdfdpaaGreatDoor
