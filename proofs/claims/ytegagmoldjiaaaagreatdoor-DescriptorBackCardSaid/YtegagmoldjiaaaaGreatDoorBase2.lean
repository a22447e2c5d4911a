/-
  What this statement needs, part 2: the texts of it, one behind the other.
-/
import Derived.Test.YtegagmoldjiaaaaGreatDoorBase1
import Derived.Deep.WholeRow
import Derived.Deep.LoopGhost
import Derived.WalkMore
import Derived.Shelf.Strconv.Itoa0
import Derived.Shelf.Bits.Mul64
import Derived.Test.YtegagmoldjiaaaaGreatDoorProg
import Derived.Lib.BitFns
import Derived.WalkKit
import Derived.Test.YtegagmoldjiaaaaGreatDoorChecked
import Derived.Lib.ItoaLen
import Derived.Laws.Slices
import Derived.Lib.ParseIntB
import Derived.Lib.ParseIntBCases
import Derived.Lib.Small
import Derived.Lib.AtoiErrMem
set_option maxRecDepth 100000
namespace Go.Proofs.YtegagmoldjiaaaaGreatDoor
open Go Go.RowKit
theorem M_pow:M=2^256:=by rw [mQ]
theorem B64_pow:(18446744073709551616:Nat)=2^64:=rfl
theorem yI (A i:Nat):wd A i=((A / 2^(64*i)%2^64:Nat):Int):=by
  unfold wd;rw [B64_pow,← Nat.pow_mul]
theorem uO {q p:Nat} (h:q%2^(p+1)=0):∃ a,q=a*2^(p+1) :=
  ⟨q / 2^(p+1),by have:=Nat.div_add_mod q (2^(p+1));rw [h] at this;rw [Nat.mul_comm];omega⟩
theorem setbit_hi (q p j:Nat) (h:q%2^(p+1)=0) (hj:p+1≤64*j):wd (q+2^p) j=wd q j:=by
  rw [yI,yI]
  congr 2
  obtain ⟨a,rfl⟩:=uO h
  have e:64*j=(p+1)+(64*j-(p+1)):=by omega
  have e2:2^(64*j)=2^(p+1)*2^(64*j-(p+1)):=by rw [← Nat.pow_add,← e]
  rw [e2,← Nat.div_div_eq_div_mul,← Nat.div_div_eq_div_mul]
  have hp:0<2^(p+1):=Nat.pow_pos (by decide)
  have h1:(a*2^(p+1)+2^p) / 2^(p+1)=a:=by
    rw [Nat.add_comm,Nat.add_mul_div_right _ _ hp,Nat.div_eq_of_lt (Nat.pow_lt_pow_right (by decide) (by omega))];omega
  rw [h1,Nat.mul_div_cancel _ hp]
theorem setbit_lo (q p j:Nat) (hj:64*(j+1)≤p):wd (q+2^p) j=wd q j:=by
  rw [yI,yI]
  congr 1
  have hp:0<2^(64*j):=Nat.pow_pos (by decide)
  have e:2^p=2^(p-64*j-64)*2^64*2^(64*j):=by rw [← Nat.pow_add,← Nat.pow_add];congr 1;omega
  rw [e,Nat.add_mul_div_right _ _ hp,Nat.add_mul_mod_self_right]
theorem setbit_at (q j b:Nat) (hb:b<64) (h:q%2^(64*j+b+1)=0):bits .or .u64 (wd q j) (2^b)=wd (q+2^(64*j+b)) j:=by
  rw [yI,yI]
  obtain ⟨a,rfl⟩:=uO h
  have hp:0<2^(64*j):=Nat.pow_pos (by decide)
  have e1:a*2^(64*j+b+1)=a*2^(b+1)*2^(64*j):=by rw [Nat.mul_assoc,← Nat.pow_add];congr 2;omega
  have e2:2^(64*j+b)=2^b*2^(64*j):=by rw [← Nat.pow_add];congr 1;omega
  rw [e2,Nat.add_mul_div_right _ _ hp,e1,Nat.mul_div_cancel _ hp]
  have e3:2^64=2^(63-b)*2^(b+1):=by rw [← Nat.pow_add];congr 1;omega
  have e4:a*2^(b+1)%2^64=a%2^(63-b)*2^(b+1):=by rw [e3,Nat.mul_mod_mul_right]
  have hl:a%2^(63-b)<2^(63-b):=Nat.mod_lt _ (Nat.pow_pos (by decide))
  have hb2:2^(b+1)=2*2^b:=by rw [Nat.pow_succ];omega
  have hpb:0<2^b:=Nat.pow_pos (by decide)
  have hle:(a%2^(63-b)+1)*2^(b+1)≤2^64:=by rw [e3];exact Nat.mul_le_mul_right _ hl
  have e5:(a*2^(b+1)+2^b)%2^64=a%2^(63-b)*2^(b+1)+2^b:=by
    rw [Nat.add_mod,e4,Nat.mod_eq_of_lt (a:=2^b) (Nat.pow_lt_pow_right (by decide) hb),Nat.mod_eq_of_lt]
    rw [Nat.add_mul] at hle;omega
  rw [e5,e4]
  rw [Nat.add_mul] at hle
  have hc:((2:Int)^b)=((2^b:Nat):Int):=by simp
  have hlt1:a%2^(63-b)*2^(b+1)<18446744073709551616:=by rw [B64_pow];omega
  have hlt2:2^b<18446744073709551616:=by rw [B64_pow];omega
  rw [hc,bits_or_u64_nat _ _ hlt1 hlt2]
  congr 1
  exact or_add _ _ _ (Nat.pow_lt_pow_right (by decide) (by omega))
def dT (N i:Nat):Nat:=N / 2^(256-i)
def dLo (lo i:Nat):Nat:=lo*2^i%M
def dR (N b i:Nat):Nat:=dT N i%b
def dQ (N b i:Nat):Nat:=dT N i / b*2^(256-i)
theorem dLo_lt (lo i:Nat):dLo lo i<M:=Nat.mod_lt _ (by rw [mQ];decide)
theorem dLo_zero {lo:Nat} (h:lo<M):dLo lo 0=lo:=by unfold dLo;rw [Nat.pow_zero,Nat.mul_one,Nat.mod_eq_of_lt h]
theorem dLo_step (lo i:Nat):2*dLo lo i%M=dLo lo (i+1):=by
  unfold dLo;rw [Nat.mul_mod_mod,Nat.pow_succ];congr 1;rw [Nat.mul_comm 2,Nat.mul_assoc]
theorem dT_zero {hi lo:Nat} (h:lo<M):dT (hi*M+lo) 0=hi:=by
  unfold dT;rw [Nat.sub_zero,← M_pow,Nat.add_comm,Nat.add_mul_div_right _ _ (by rw [mQ];decide),Nat.div_eq_of_lt h];omega
theorem dT_step (hi lo i : Nat) (h : i < 256) : dT (hi * M + lo) (i + 1) = 2 * dT (hi * M + lo) i + 2 * dLo lo i / M := by
  unfold dT dLo
  rw [M_pow] at *
  have e0:256-i=(256-(i+1))+1:=by omega
  generalize hk:256-(i+1)=k at *
  rw [e0]
  have hi':i=255-k:=by omega
  have hlo:=Nat.div_add_mod lo (2^(k+1))
  have hv:lo%2^(k+1)<2^(k+1):=Nat.mod_lt _ (Nat.pow_pos (by decide))
  generalize lo / 2^(k+1)=u at *
  generalize lo%2^(k+1)=v at *
  have pk:2^(k+1)=2*2^k:=by rw [Nat.pow_succ];omega
  have p0:0<2^k:=Nat.pow_pos (by decide)
  have p256:(2:Nat)^256=2^(255-k)*2^(k+1):=by rw [← Nat.pow_add];congr 1;omega
  have e1:(hi*2^256+lo) / 2^(k+1)=hi*2^(255-k)+u:=by
    rw [p256,← hlo,show hi*(2^(255-k)*2^(k+1))+(2^(k+1)*u+v)=v+(hi*2^(255-k)+u)*2^(k+1) by rw [Nat.add_mul,Nat.mul_assoc,Nat.mul_comm u];omega,
      Nat.add_mul_div_right _ _ (Nat.pow_pos (by decide)),Nat.div_eq_of_lt hv];omega
  have e2:(hi*2^256+lo) / 2^k=2*(hi*2^(255-k)+u)+v / 2^k:=by
    rw [p256,← hlo,show hi*(2^(255-k)*2^(k+1))+(2^(k+1)*u+v)=v+(2*(hi*2^(255-k)+u))*2^k by
      rw [pk]
      have a1:hi*(2^(255-k)*(2*2^k))=2*(hi*2^(255-k))*2^k:=by
        rw [← Nat.mul_assoc,← Nat.mul_assoc,Nat.mul_comm (hi*2^(255-k)) 2]
      have a2:2*2^k*u=2*u*2^k:=by rw [Nat.mul_assoc,Nat.mul_comm (2^k),← Nat.mul_assoc]
      rw [a1,a2,Nat.mul_add,Nat.add_mul];omega,
      Nat.add_mul_div_right _ _ p0];omega
  have e3:lo*2^i%2^256=v*2^(255-k):=by
    rw [hi',← hlo,Nat.add_mul,p256,show 2^(k+1)*u*2^(255-k)=u*(2^(255-k)*2^(k+1)) by rw [Nat.mul_comm (2^(k+1)),Nat.mul_assoc,Nat.mul_comm (2^(k+1))],
      Nat.add_comm,Nat.add_mul_mod_self_right,Nat.mod_eq_of_lt]
    rw [Nat.mul_comm (2^(255-k))];exact Nat.mul_lt_mul_of_pos_right hv (Nat.pow_pos (by decide))
  have e4:2*(v*2^(255-k)) / 2^256=v / 2^k:=by
    rw [p256,pk,show 2*(v*2^(255-k))=v*(2^(255-k)*2) by rw [← Nat.mul_assoc,← Nat.mul_assoc,Nat.mul_comm 2 v,Nat.mul_assoc,Nat.mul_comm 2,← Nat.mul_assoc],
      show 2^(255-k)*(2*2^k)=2^k*(2^(255-k)*2) by rw [← Nat.mul_assoc,Nat.mul_comm],Nat.mul_div_mul_right _ _ (by have:0<2^(255-k):=Nat.pow_pos (by decide);omega)]
  rw [e1,e2,e3,e4]
theorem dbit (lo i:Nat):2*dLo lo i / M≤1:=by
  have:=dLo_lt lo i
  have hM:0<M:=by rw [mQ];decide
  rw [← Nat.lt_succ_iff,Nat.div_lt_iff_lt_mul hM];omega
theorem dQ_low (N b i:Nat) (_h:i<256):dQ N b i%2^(255-i+1)=0:=by
  unfold dQ;rw [show 255-i+1=256-i by omega];exact Nat.mul_mod_left _ _
theorem d_yes (hi lo b i:Nat) (hb:0<b) (h:i<256) (hge:b≤2*dR (hi*M+lo) b i+2*dLo lo i / M) :
    dR (hi*M+lo) b (i+1)=2*dR (hi*M+lo) b i+2*dLo lo i / M-b∧dQ (hi*M+lo) b (i+1)=dQ (hi*M+lo) b i+2^(255-i):=by
  have hT:=dT_step hi lo i h
  have hbit:=dbit lo i
  unfold dR dQ at *
  generalize dT (hi*M+lo) (i+1)=T' at *
  generalize dT (hi*M+lo) i=T at *
  generalize 2*dLo lo i / M=c at *
  have hd:=Nat.div_add_mod T b
  have hr:=Nat.mod_lt T hb
  generalize T / b=q at *
  generalize T%b=r at *
  have e:T'=(2*r+c-b)+(2*q+1)*b:=by rw [hT,← hd,Nat.add_mul,Nat.mul_assoc,Nat.mul_comm q b];omega
  have h1:2*r+c-b<b:=by omega
  rw [e,Nat.add_mul_mod_self_right,Nat.mod_eq_of_lt h1,Nat.add_mul_div_right _ _ hb,Nat.div_eq_of_lt h1]
  refine ⟨rfl,?_⟩
  rw [show 256-(i+1)=255-i by omega,show 256-i=255-i+1 by omega,Nat.pow_succ,Nat.zero_add,Nat.add_mul,Nat.one_mul,Nat.mul_comm 2 q,Nat.mul_assoc,Nat.mul_comm 2]
theorem d_no (hi lo b i:Nat) (hb:0<b) (h:i<256) (hge:2*dR (hi*M+lo) b i+2*dLo lo i / M<b) :
    dR (hi*M+lo) b (i+1)=2*dR (hi*M+lo) b i+2*dLo lo i / M∧dQ (hi*M+lo) b (i+1)=dQ (hi*M+lo) b i:=by
  have hT:=dT_step hi lo i h
  have hbit:=dbit lo i
  unfold dR dQ at *
  generalize dT (hi*M+lo) (i+1)=T' at *
  generalize dT (hi*M+lo) i=T at *
  generalize 2*dLo lo i / M=c at *
  have hd:=Nat.div_add_mod T b
  generalize T / b=q at *
  generalize T%b=r at *
  have e:T'=(2*r+c)+(2*q)*b:=by rw [hT,← hd,Nat.mul_assoc,Nat.mul_comm q b];omega
  rw [e,Nat.add_mul_mod_self_right,Nat.mod_eq_of_lt hge,Nat.add_mul_div_right _ _ hb,Nat.div_eq_of_lt hge]
  refine ⟨rfl,?_⟩
  rw [show 256-(i+1)=255-i by omega,show 256-i=255-i+1 by omega,Nat.pow_succ,Nat.zero_add,Nat.mul_comm 2 q,Nat.mul_assoc,Nat.mul_comm 2]
theorem dR_lt (N b i:Nat) (hb:0<b):dR N b i<b:=Nat.mod_lt _ hb
theorem d_start {hi lo b:Nat} (hl:lo<M) (hb:hi<b):dR (hi*M+lo) b 0=hi∧dQ (hi*M+lo) b 0=0:=by
  unfold dR dQ;rw [dT_zero hl,Nat.mod_eq_of_lt hb,Nat.div_eq_of_lt hb];exact ⟨rfl,Nat.zero_mul _⟩
theorem d_end (N b:Nat):dR N b 256=N%b∧dQ N b 256=N / b:=by
  unfold dR dQ dT;simp
theorem d_early {hi lo b i:Nat} (h:i≤256) (hr:dR (hi*M+lo) b i=0) (h0:dLo lo i=0):dR (hi*M+lo) b i=(hi*M+lo)%b∧dQ (hi*M+lo) b i=(hi*M+lo) / b:=by
  have key:∀ k,i+k≤256→dT (hi*M+lo) (i+k)=dT (hi*M+lo) i*2^k∧dLo lo (i+k)=0:=by
    intro k
    induction k with
    | zero=>intro _;exact ⟨by simp,h0⟩
    | succ k ih =>
      intro hk
      obtain ⟨h1,h2⟩:=ih (by omega)
      have h3:=dT_step hi lo (i+k) (by omega)
      have h4:=dLo_step lo (i+k)
      rw [h2] at h3 h4
      refine ⟨?_,?_⟩
      · rw [← Nat.add_assoc,h3,h1,Nat.mul_zero,Nat.zero_div,Nat.pow_succ,Nat.add_zero,Nat.mul_comm 2,Nat.mul_assoc]
      · rw [← Nat.add_assoc,← h4];simp
  have hN:hi*M+lo=dT (hi*M+lo) i*2^(256-i):=by
    have:=(key (256-i) (by omega)).1
    rw [show i+(256-i)=256 by omega] at this
    rw [← this];unfold dT;simp
  unfold dR dQ at *
  generalize dT (hi*M+lo) i=T at *
  rw [hN]
  by_cases hb:b=0
  · subst hb;simp at *;simp [hr]
  · have hb' : 0 < b := by omega
    have hd:=Nat.div_add_mod T b
    rw [hr] at hd
    rw [hr]
    generalize T / b=q at *
    have e:T*2^(256-i)=q*2^(256-i)*b:=by rw [← hd,Nat.add_zero,Nat.mul_comm b q,Nat.mul_right_comm]
    rw [e,Nat.mul_mod_left,Nat.mul_div_cancel _ hb']
    exact ⟨rfl,rfl⟩
theorem U_small (n:Nat) (hn:n<18446744073709551616):Value.agg #[.int .u64 n,.int .u64 0,.int .u64 0,.int .u64 0]=U n :=
  sG n ⟨by omega,by omega⟩ rZ rZ rZ (by omega)
set_option maxHeartbeats 1000000 in
theorem fromuint_any (n:Int) (w:World) (hn:Word n) :
    Calls Tryz.prog 126 #[.int .u64 n] w fun e w'=>e=.returned (U n.toNat)∧Below w.heap.size w w':=by
  obtain ⟨n,rfl⟩:=Int.eq_ofNat_of_zero_le hn.1
  have h2:=hn.2
  go_enter Tryz.func126,Tryz.ntmps126
  go_wp2
  go_returns
  refine ⟨ret_U (U_small n (by omega)),?_⟩
  (exact bt)
theorem zZ {x c:Int} (_hx:Word x) (hc:xZ c):bits .or .u64 (IntKind.u64.wrap (x*2)) c=(x*2)%18446744073709551616+c:=by
  unfold Word xZ at *
  rw [IntKind.wrap_u64]
  have e:x*2%18446744073709551616=(x%9223372036854775808)*2^1:=by omega
  have h:=uJ (x%9223372036854775808) c 1 (by omega) hc.1 (by omega) (by omega)
  rw [← e] at h
  exact h
theorem dbl_bit {x:Int} (hx:Word x):xZ (x / 9223372036854775808):=by unfold Word xZ at *;omega
theorem dbl_words (A:Nat) (c:Int) (hA:A<M) (hc:xZ c) :
    Value.agg #[.int .u64 (bits .or .u64 (IntKind.u64.wrap (wd A 0*2)) c),.int .u64 (bits .or .u64 (IntKind.u64.wrap (wd A 1*2)) (wd A 0 / 9223372036854775808)),.int .u64 (bits .or .u64 (IntKind.u64.wrap (wd A 2*2)) (wd A 1 / 9223372036854775808)),.int .u64 (bits .or .u64 (IntKind.u64.wrap (wd A 3*2)) (wd A 2 / 9223372036854775808))]=U ((2*A+c.toNat)%M)∧wd A 3 / 9223372036854775808=(((2*A+c.toNat) / M:Nat):Int):=by
  have w0:=bG A 0;have w1:=bG A 1;have w2:=bG A 2;have w3:=bG A 3
  have ea:=pO A hA
  rw [zZ w0 hc,zZ w1 (dbl_bit w0),zZ w2 (dbl_bit w1),zZ w3 (dbl_bit w2)]
  generalize wd A 0=a0 at *;generalize wd A 1=a1 at *;generalize wd A 2=a2 at *;generalize wd A 3=a3 at *
  unfold Word xZ at *
  refine ⟨sG _ ?_ ?_ ?_ ?_ ?_,?_⟩
  · unfold Word;omega
  · unfold Word;omega
  · unfold Word;omega
  · unfold Word;omega
  · rw [mQ] at *;omega
  · rw [mQ] at *;omega
theorem ret_Ui {a b:Value} {c d:Int} (h:a=b) (h':c=d):Ending.returned (.tuple #[a,.int .u64 c])=.returned (.tuple #[b,.int .u64 d]):=by rw [h,h']
set_option maxHeartbeats 1000000 in
theorem double_any (A:Nat) (c:Int) (w:World) (hA:A<M) (hc:xZ c) :
    Calls Tryz.prog 182 #[U A,.int .u64 c] w fun e w'=>e=.returned (.tuple #[U ((2*A+c.toNat)%M),.int .u64 (((2*A+c.toNat) / M:Nat):Int)])∧Below w.heap.size w w':=by
  have H:=Lib.hid hc
  clear hc
  go_enter Tryz.func182,Tryz.ntmps182
  go_wp2
  refine wp_loop_rounds 5 ?_
  repeat (rw [rounds_succ];go_wp2;try (go_region;go_wp2))
  go_returns
  obtain ⟨g1,g2⟩:=dbl_words A c hA H.out
  refine ⟨ret_Ui g1 g2,?_⟩
  (exact bt)
theorem setRow_alloc_at (w:World) (c c':Array Value) (t:TypeId) (n:Nat) (hn:n=w.heap.size):(w.alloc (.cells c t)).setRow n c'=w.alloc (.cells c' t):=by
  subst hn;exact World.setRow_alloc_new w c c' t
theorem zL (w:World) (o:Obj) (c':Array Value) (n:Nat) (hn:n<w.heap.size):(w.alloc o).setRow n c'=(w.setRow n c').alloc o:=by
  simp only [World.setRow,World.alloc]
  congr 1
  apply Array.ext_getElem?
  intro i
  simp only [Array.getElem?_modify,Array.getElem?_push,Array.size_modify]
  by_cases h:n=i
  · subst h;rw [if_pos rfl,if_neg (by omega),if_neg (by omega),if_pos rfl]
  · rw [if_neg h];split<;>first | rfl | (rw [if_neg h])
theorem heap_past_aux (w:World) (o:Obj) (n:Nat) (hn:n<w.heap.size):(w.alloc o).heap[n]? = w.heap[n]? := by
  show (w.heap.push o)[n]? = _
  rw [Array.getElem?_push,if_neg (Nat.ne_of_lt hn)]
theorem fF (w:World) (o:Obj) (n:Nat) (hn:n=w.heap.size):(w.alloc o).heap[n]? = some o:=by subst hn;exact heap_alloc_new w o
theorem dM (w:World) (o:Obj) (n:Nat) (hn:n<w.heap.size):(w.alloc o).heap[n]? = w.heap[n]? := Go.Proofs.YtegagmoldjiaaaaGreatDoor.heap_past_aux w o n hn
theorem wl_load {P:Program} {ops:Array Oper} {rest:List Oper} {dst:Option Tmp} {ty ty':TypeId} {x:Operand} {pos:String} {after:Array Edge} {a:Act} {w:World} {Q:Exit→Act→World→Prop}
    (g:Nat) (t:TypeId) (cs:Array Value) (d:TypeDesc) (hx:a.eval x=.pointer (some ⟨g,0,none⟩)) (hg:w.heap[g]? = some (.cells cs t (0,0)))
    (hu:P.underlying ty=some d) (hd:(match d with | .struct _ | .array _ _=>true | _=>false)=true) (hi:(P.info? ty).map (·.size)=some cs.size)
    (h:wpList P ops Q rest (a.put dst (.agg cs)) w):wpList P ops Q (⟨dst,.load ty x,ty',pos,after,none⟩::rest) a w :=
  wpList_load_row rfl ty x rfl g hx t cs (0,0) d hg hu hd hi h
theorem wl_store {P:Program} {ops:Array Oper} {rest:List Oper} {ty ty':TypeId} {x y:Operand} {pos:String} {after:Array Edge} {a:Act} {w:World} {Q:Exit→Act→World→Prop}
    (g:Nat) (t:TypeId) (old cs:Array Value) (hx:a.eval x=.pointer (some ⟨g,0,none⟩)) (hy:a.eval y=.agg cs) (hg:w.heap[g]? = some (.cells old t (0,0)))
    (hi:(P.info? ty).map (·.size)=some cs.size) (ho:old.size=cs.size) (h1:cs.all (·.oneCell')=true)
    (h:wpList P ops Q rest a (w.setRow g cs)):wpList P ops Q (⟨none,.store ty x y,ty',pos,after,none⟩::rest) a w :=
  wpList_store_row rfl ty x y rfl g cs hx hy t old hg hi ho h1 h
theorem hp_3_0 (w:World) (o0 o1 o2:Obj):(((w.alloc o0).alloc o1).alloc o2).heap[w.heap.size]? = some o0:=(dM _ _ _ (by simp;try omega)).trans ((dM _ _ _ (by simp;try omega)).trans (fF _ _ _ (by simp)))
theorem hp_3_1 (w:World) (o0 o1 o2:Obj):(((w.alloc o0).alloc o1).alloc o2).heap[w.heap.size+1]? = some o1:=(dM _ _ _ (by simp;try omega)).trans (fF _ _ _ (by simp))
theorem sr_3_1 (w:World) (o0 o2:Obj) (c c':Array Value) (t:TypeId):(((w.alloc o0).alloc (.cells c t)).alloc o2).setRow (w.heap.size+1) c'=(((w.alloc o0).alloc (.cells c' t)).alloc o2):=by rw [zL _ _ _ _ (by simp;try omega),setRow_alloc_at _ _ _ _ _ (by simp)]
theorem hp_3_2 (w:World) (o0 o1 o2:Obj):(((w.alloc o0).alloc o1).alloc o2).heap[w.heap.size+1+1]? = some o2:=fF _ _ _ (by simp)
theorem hp_5_0 (w:World) (o0 o1 o2 o3 o4:Obj):(((((w.alloc o0).alloc o1).alloc o2).alloc o3).alloc o4).heap[w.heap.size]? = some o0:=(dM _ _ _ (by simp;try omega)).trans ((dM _ _ _ (by simp;try omega)).trans ((dM _ _ _ (by simp;try omega)).trans ((dM _ _ _ (by simp;try omega)).trans (fF _ _ _ (by simp)))))
theorem hp_5_1 (w:World) (o0 o1 o2 o3 o4:Obj):(((((w.alloc o0).alloc o1).alloc o2).alloc o3).alloc o4).heap[w.heap.size+1]? = some o1:=(dM _ _ _ (by simp;try omega)).trans ((dM _ _ _ (by simp;try omega)).trans ((dM _ _ _ (by simp;try omega)).trans (fF _ _ _ (by simp))))
theorem hp_5_2 (w:World) (o0 o1 o2 o3 o4:Obj):(((((w.alloc o0).alloc o1).alloc o2).alloc o3).alloc o4).heap[w.heap.size+1+1]? = some o2:=(dM _ _ _ (by simp;try omega)).trans ((dM _ _ _ (by simp;try omega)).trans (fF _ _ _ (by simp)))
theorem hp_5_3 (w:World) (o0 o1 o2 o3 o4:Obj):(((((w.alloc o0).alloc o1).alloc o2).alloc o3).alloc o4).heap[w.heap.size+1+1+1]? = some o3:=(dM _ _ _ (by simp;try omega)).trans (fF _ _ _ (by simp))
theorem hp_5_4 (w:World) (o0 o1 o2 o3 o4:Obj):(((((w.alloc o0).alloc o1).alloc o2).alloc o3).alloc o4).heap[w.heap.size+1+1+1+1]? = some o4:=fF _ _ _ (by simp)
theorem ret_UUb {a b c d:Value} {x y:Bool} (h:a=b) (h':c=d) (h2:x=y):Ending.returned (.tuple #[a,c,.bool x])=.returned (.tuple #[b,d,.bool y]):=by rw [h,h',h2]
theorem mF (q g m:Nat) (hg:g<4) (hm:m<64) (h:q%2^(64*g+m+1)=0):(cU q).setIfInBounds g (.int .u64 (bits .or .u64 (wd q g) (2^m)))=cU (q+2^(64*g+m)):=by
  rw [setbit_at q g m hm h]
  have hh:∀ j,g<j→wd (q+2^(64*g+m)) j=wd q j:=fun j hj=>setbit_hi q _ j h (by omega)
  have hl:∀ j,j<g→wd (q+2^(64*g+m)) j=wd q j:=fun j hj=>setbit_lo q _ j (by omega)
  generalize q+2^(64*g+m)=q' at *
  rcases (by omega:g=0∨g=1∨g=2∨g=3) with rfl | rfl | rfl | rfl
  · show #[_,_,_,_]=_;rw [cU,hh 1 (by omega),hh 2 (by omega),hh 3 (by omega)]
  · show #[_,_,_,_]=_;rw [cU,hl 0 (by omega),hh 2 (by omega),hh 3 (by omega)]
  · show #[_,_,_,_]=_;rw [cU,hl 0 (by omega),hl 1 (by omega),hh 3 (by omega)]
  · show #[_,_,_,_]=_;rw [cU,hl 0 (by omega),hl 1 (by omega),hl 2 (by omega)]
theorem x8 (m:Nat) (h:m<64):IntKind.u64.wrap (2^m)=2^m:=by
  have h1:(2:Nat)^m<2^64:=Nat.pow_lt_pow_right (by decide) h
  have h2:((2^m:Nat):Int)<((2^64:Nat):Int):=by omega
  have h3:((2^m:Nat):Int)=2^m:=by simp
  rw [h3] at h2
  exact xAB (by rw [← h3];exact Int.natCast_nonneg _) h2
theorem step_r2 {v b:Nat} (h:b≤v) (h2:v-b<M) (hb:b<M):(v%M+M-b)%M=v-b:=by rw [mQ] at *;omega
theorem cmp_ge {A B:Nat} (h:B≤A):0≤fJ A B:=by unfold fJ;split<;>(try split)<;>omega
theorem cmp_lt {A B:Nat} (h:A<B):fJ A B<0:=by unfold fJ;split<;>(try split)<;>omega
def Own (w:World) (g:Nat) (C:Array Value):Prop:=w.heap[g]? = some (.cells C 54 (0,0))
theorem Own.cell {w:World} {g:Nat} {C:Array Value} (h:Own w g C) (j:Nat):w.cell? ⟨g,j,none⟩=C[j]? := cell_of_row w g j C _ _ h
theorem Own.free {w:World} {g:Nat} {C:Array Value} (h:Own w g C) (j:Nat):w.frozen? ⟨g,j,none⟩=false:=frozen_of_row w g j C _ h
theorem Own.lt {w:World} {g:Nat} {C:Array Value} (h:Own w g C):g<w.heap.size:=by
  unfold Own at h
  by_cases hl:g<w.heap.size
  · exact hl
  · rw [Array.getElem?_eq_none (by omega)] at h;exact absurd h (by simp)
theorem Own.below {w w':World} {g:Nat} {C:Array Value} (h:Own w g C) (hb:Below w.heap.size w w'):Own w' g C:=(hb.block g h.lt).trans h
theorem Own.set4 {w:World} {g:Nat} {c0 c1 c2 c3:Value} (h:Own w g #[c0,c1,c2,c3]) (d0 d1 d2 d3:Value):Own ((((w.setCell ⟨g,0,none⟩ d0).setCell ⟨g,1,none⟩ d1).setCell ⟨g,2,none⟩ d2).setCell ⟨g,3,none⟩ d3) g #[d0,d1,d2,d3] :=
  heap_setCell_same _ g 3 _ _ d3 (heap_setCell_same _ g 2 _ _ d2 (heap_setCell_same _ g 1 _ _ d1 (heap_setCell_same _ g 0 _ _ d0 h)))
theorem Own.set {w:World} {g i:Nat} {C:Array Value} (h:Own w g C) (d:Value):Own (w.setCell ⟨g,i,none⟩ d) g (C.setIfInBounds i d):=heap_setCell_same _ g i _ _ d h
theorem Own.other {w:World} {g:Nat} {C:Array Value} (h:Own w g C) {g' i:Nat} (hg:g≠g') (d:Value):Own (w.setCell ⟨g',i,none⟩ d) g C:=(heap_setCell_other w ⟨g',i,none⟩ g d hg).trans h
theorem Own.other4 {w:World} {g:Nat} {C:Array Value} (h:Own w g C) {g':Nat} (hg:g≠g') (d0 d1 d2 d3:Value):Own ((((w.setCell ⟨g',0,none⟩ d0).setCell ⟨g',1,none⟩ d1).setCell ⟨g',2,none⟩ d2).setCell ⟨g',3,none⟩ d3) g C :=
  (((h.other hg d0).other hg d1).other hg d2).other hg d3
theorem Own.drew {w:World} {g:Nat} {C:Array Value} (h:Own w g C):Own w.drew g C:=h
theorem Own.new {w:World} (C:Array Value):Own (w.alloc (.cells C 54)) w.heap.size C:=fF w _ _ rfl
theorem Own.past {w:World} {g:Nat} {C:Array Value} (h:Own w g C) (o:Obj):Own (w.alloc o) g C:=(dM w o g h.lt).trans h
theorem loadU {w:World} {g:Nat} {C:Array Value} (O:Own w g C) (hs:C.size=4):(loadVar 54 ⟨g,0,none⟩).run Tryz.prog w=.ok (.agg C) w :=
  run_loadVar_row w g 54 54 C (0,0) _ O Tryz.underlying54 rfl (by rw [hs];kernel_rfl)
theorem y5 {fn:Func} {p1 p2 b:Tmp} (h:fn.results= #[.cell p1 54,.cell p2 54,.tmp b]) (tmps:Array Value) (w:World) (g1 g2:Nat) (C1 C2:Array Value)
    (hp1:tmps.getD p1 undef=.pointer (some ⟨g1,0,none⟩)) (hp2:tmps.getD p2 undef=.pointer (some ⟨g2,0,none⟩)) (O1:Own w g1 C1) (O2:Own w g2 C2) (s1:C1.size=4) (s2:C2.size=4) :
    (results fn tmps).run Tryz.prog w=.ok (.tuple #[.agg C1,.agg C2,tmps.getD b undef]) w:=by
  have h1:tmps[p1]?.getD undef=.pointer (some ⟨g1,0,none⟩):=by simpa using hp1
  have h2:tmps[p2]?.getD undef=.pointer (some ⟨g2,0,none⟩):=by simpa using hp2
  simp [results,h,h1,h2,asAddr,loadU O1 s1,loadU O2 s2]
set_option maxHeartbeats 1000000 in
theorem div_no (hi lo b:Nat) (w:World) (h1:hi<M) (h3:b<M) (hle:b≤hi) :
    Calls Tryz.prog 180 #[U hi,U lo,U b] w fun e w'=>e=.returned (.tuple #[U 0,U 0,.bool false])∧Below w.heap.size w w':=by
  have hc:fJ b hi≤0:=by unfold fJ;split<;>(try split)<;>omega
  go_enter Tryz.func180,Tryz.ntmps180
  go_wp2_with fail
  go_step3
  go_wp2_with fail
  refine (uN b hi _ h3 h1).mono ?_;rintro e w1 ⟨rfl,hb⟩
  have O3:Own w1 (w.heap.size+1+1+1) #[.int .u64 0,.int .u64 0,.int .u64 0,.int .u64 0]:=Own.below (hp_5_3 _ _ _ _ _ _) hb
  have O4:Own w1 (w.heap.size+1+1+1+1) #[.int .u64 0,.int .u64 0,.int .u64 0,.int .u64 0]:=Own.below (hp_5_4 _ _ _ _ _ _) hb
  have hb':Below w.heap.size w w1:=Below.trans (by (exact bt)) (hb.mono (by simp only [World.size_alloc];omega))
  clear hb
  have c3:=O3.cell;have f3:=O3.free;have c4:=O4.cell;have f4:=O4.free
  go_wp2
  rw [Exit.noGoto_ret]
  go_big_open
  refine bodyPost_ret (y5 rfl _ _ _ _ _ _ rfl rfl ((O3.set4 _ _ _ _).other4 (by omega) _ _ _ _) ((O4.other4 (by omega) _ _ _ _).set4 _ _ _ _) rfl rfl) rfl ?_
  refine ⟨ret_UUb U0_eq U0_eq rfl,?_⟩
  (exact bt)
def DivW (w wr:World) (z hi lo b i:Nat):Prop :=
  Below w.heap.size w wr∧w.heap.size+5≤z∧z<wr.heap.size ∧
  Own wr (w.heap.size+1) (cU (dLo lo i)) ∧
  Own wr (w.heap.size+1+1) (cU b) ∧
  Own wr (w.heap.size+1+1+1) (cU (dQ (hi*M+lo) b i)) ∧
  Own wr (w.heap.size+1+1+1+1) (cU (dR (hi*M+lo) b i)) ∧
  Own wr z #[.int .u64 0,.int .u64 0,.int .u64 0,.int .u64 0]
set_option maxHeartbeats 4000000 in
theorem div_yes (hi lo b:Nat) (w:World) (h1:hi<M) (h2:lo<M) (h3:b<M) (hle:hi<b) :
    Calls Tryz.prog 180 #[U hi,U lo,U b] w fun e w'=>e=.returned (.tuple #[U ((hi*M+lo) / b),U ((hi*M+lo)%b),.bool true])∧Below w.heap.size w w':=by
  have hc:0<fJ b hi:=by rw [cmpN_gt hle];omega
  go_enter Tryz.func180,Tryz.ntmps180
  go_wp2_with fail
  go_step3
  go_wp2_with fail
  refine (uN b hi _ h3 h1).mono ?_;rintro e w1 ⟨rfl,hb⟩
  have O0:Own w1 w.heap.size (cU hi):=Own.below (hp_5_0 _ _ _ _ _ _) hb
  have O1:Own w1 (w.heap.size+1) (cU lo):=Own.below (hp_5_1 _ _ _ _ _ _) hb
  have O2:Own w1 (w.heap.size+1+1) (cU b):=Own.below (hp_5_2 _ _ _ _ _ _) hb
  have O3:Own w1 (w.heap.size+1+1+1) #[.int .u64 0,.int .u64 0,.int .u64 0,.int .u64 0]:=Own.below (hp_5_3 _ _ _ _ _ _) hb
  have O4:Own w1 (w.heap.size+1+1+1+1) #[.int .u64 0,.int .u64 0,.int .u64 0,.int .u64 0]:=Own.below (hp_5_4 _ _ _ _ _ _) hb
  have hB:Below w.heap.size w w1:=Below.trans (by (exact bt)) (hb.mono (by simp only [World.size_alloc];omega))
  clear hb
  have c0:=O0.cell;have l0:=O0.lt;have c4:=O4.cell;have f4:=O4.free;have l4:=O4.lt
  go_wp2
  go_step3
  go_wp2
  go_loopg [10] 4 (fun k p wr=>k≤4∧p=.int .i64 (k-1)∧DivW w wr w1.heap.size hi lo b (256-64*k))
  case atStart =>
    obtain ⟨e1,e2⟩:=d_start h2 hle
    refine ⟨by omega,rfl,?_,by omega,by simp,?_,?_,?_,?_,?_⟩
    · (exact bt)
    · rw [show 256-64*4=0 by omega,dLo_zero h2];exact (O1.other4 (by omega) _ _ _ _).past _
    · exact (O2.other4 (by omega) _ _ _ _).past _
    · rw [show 256-64*4=0 by omega,e2,cU,l9,l9,l9,l9];exact (O3.other4 (by omega) _ _ _ _).past _
    · rw [show 256-64*4=0 by omega,e1];exact (O4.set4 _ _ _ _).past _
    · exact fF _ _ _ (by simp)
  case round =>
    obtain ⟨hk,rfl,hW⟩:=hrel
    by_cases hk0:gk=0
    · subst hk0
      obtain ⟨B0,z1,z2,P1,P2,P3,P4,P5⟩:=hW
      obtain ⟨y1,y2⟩:=d_end (hi*M+lo) b
      rw [show 256-64*0=256 by omega,y1] at P4
      rw [show 256-64*0=256 by omega,y2] at P3
      clear y1 y2 P1
      obtain ⟨r,er⟩:∃ r,r=(hi*M+lo)%b:=⟨_,rfl⟩
      obtain ⟨q,eq⟩:∃ q,q=(hi*M+lo) / b:=⟨_,rfl⟩
      rw [← er] at P4;rw [← eq] at P3
      have ER:=Lib.hid er;have EQ:=Lib.hid eq
      clear er eq
      have c3:=P3.cell;have f3:=P3.free;have c4':=P4.cell;have f4':=P4.free
      go_wp2
      go_region
      go_wp2
      try rw [Exit.noGoto_ret]
      try go_big_open
      refine bodyPost_ret (y5 rfl _ _ _ _ _ _ rfl rfl ((P3.set4 _ _ _ _).other4 (by omega) _ _ _ _).drew ((P4.other4 (by omega) _ _ _ _).set4 _ _ _ _).drew rfl rfl) rfl ?_
      rw [← ER.out,← EQ.out]
      refine ⟨rfl,?_⟩
      (exact bt)
    · obtain ⟨g, rfl⟩ : ∃ g, gk = g + 1 := ⟨gk - 1, by omega⟩
      have eg:((g+1:Nat):Int)-1=g:=by omega
      rw [eg]
      have HW:=Lib.hid hW
      clear hW eg
      obtain ⟨wo,rfl⟩:∃ wo:World,wo=wr:=⟨_,rfl⟩
      go_wp2
      go_loopg [11] 64 (fun k p wr=>k≤64∧p=.int .i64 (k-1)∧DivW w wr w1.heap.size hi lo b (256-64*g-k))
      case atStart =>
        have:=HW.out
        exact ⟨by omega,rfl,by rw [show 256-64*g-64=256-64*(g+1) by omega];exact this⟩
      case round =>
        obtain ⟨hk2,rfl,hW⟩:=hrel
        by_cases hm0:gk=0
        · subst hm0
          have HW2:=Lib.hid hW
          clear hW
          go_wp2
          go_roundg g
          case rel=>exact ⟨by omega,by go_num,HW2.out⟩
          case measure=>omega
        · obtain ⟨m, rfl⟩ : ∃ m, gk = m + 1 := ⟨gk - 1, by omega⟩
          have eg:((m+1:Nat):Int)-1=m:=by omega
          rw [eg]
          clear eg
          obtain ⟨i,hi2⟩:∃ i,i=256-64*g-(m+1):=⟨_,rfl⟩
          rw [← hi2] at hW
          have HI:Hid (i+(64*g+m)=255):=by show _=_;omega
          clear hi2
          obtain ⟨B0,z1,z2,P1,P2,P3,P4,P5⟩:=hW
          obtain ⟨x,ex⟩:∃ x,x=dLo lo i:=⟨_,rfl⟩
          obtain ⟨r,er⟩:∃ r,r=dR (hi*M+lo) b i:=⟨_,rfl⟩
          obtain ⟨q,eq⟩:∃ q,q=dQ (hi*M+lo) b i:=⟨_,rfl⟩
          obtain ⟨x',ex'⟩:∃ x',x'=dLo lo (i+1):=⟨_,rfl⟩
          obtain ⟨c,ec⟩:∃ c:Nat,c=2*x / M:=⟨_,rfl⟩
          obtain ⟨r1,er1⟩:∃ r1,r1=(2*r+c)%M:=⟨_,rfl⟩
          obtain ⟨ov,eov⟩:∃ ov:Nat,ov=(2*r+c) / M:=⟨_,rfl⟩
          obtain ⟨r2,er2⟩:∃ r2,r2=(r1+M-b)%M:=⟨_,rfl⟩
          have xlt:x<M:=by rw [ex];exact dLo_lt lo i
          have rlt:r<M:=by rw [er];exact Nat.lt_trans (dR_lt _ b i (by omega)) h3
          have r1lt:r1<M:=by rw [er1];exact Nat.mod_lt _ vK
          have cbit:xZ (c:Int):=by have:=dbit lo i;rw [← ex,← ec] at this;unfold xZ;omega
          have D1:Hid (∀ W,Calls Tryz.prog 182 #[U x,.int .u64 0] W fun e w'=>e=.returned (.tuple #[U x',.int .u64 (c:Int)])∧Below W.heap.size W w'):=by
            intro W
            have h:=double_any x 0 W xlt jD
            rw [show 2*x+(0:Int).toNat=2*x by rfl,← ec] at h
            rw [ex',← dLo_step lo i,← ex];exact h
          have D2:Hid (∀ W,Calls Tryz.prog 182 #[U r,.int .u64 (c:Int)] W fun e w'=>e=.returned (.tuple #[U r1,.int .u64 (ov:Int)])∧Below W.heap.size W w'):=by
            intro W
            have h:=double_any r (c:Int) W rlt cbit
            rw [Int.toNat_natCast,← er1,← eov] at h
            exact h
          have D3:Hid (∀ W,Calls Tryz.prog 183 #[U r1,U b] W fun e w'=>e=.returned (.tuple #[U r2,.bool (decide (r1<b))])∧Below W.heap.size W w'):=by
            intro W
            have h:=sub_any r1 b W r1lt h3
            rw [← er2] at h
            exact h
          have D4:Hid (∀ W,Calls Tryz.prog 160 #[U r1,U b] W fun e w'=>e=.returned (.int .i64 (fJ r1 b))∧Below W.heap.size W w'):=fun W=>uN r1 b W r1lt h3
          have p255:255-i=64*g+m:=by have:=HI.out;omega
          have YES:Hid (b≤2*r+c→dR (hi*M+lo) b (i+1)=r2∧dQ (hi*M+lo) b (i+1)=q+2^(64*g+m)∧q%2^(64*g+m+1)=0):=by
            intro hge
            have hq:=dQ_low (hi*M+lo) b i (by have:=HI.out;omega)
            rw [er,ec,ex] at hge
            obtain ⟨y1,y2⟩:=d_yes hi lo b i (by omega) (by have:=HI.out;omega) hge
            have hlt:=dR_lt (hi*M+lo) b (i+1) (by omega)
            rw [y1,← er,← ex,← ec] at hlt
            rw [← er,← ex,← ec] at hge
            rw [y1,y2,← er,← ex,← ec,← eq,p255,er2,er1,step_r2 hge (by omega) h3]
            rw [← eq,p255] at hq
            exact ⟨rfl,rfl,hq⟩
          have NO:Hid (2*r+c<b→dR (hi*M+lo) b (i+1)=r1∧dQ (hi*M+lo) b (i+1)=q):=by
            intro hge
            rw [er,ec,ex] at hge
            obtain ⟨y1,y2⟩:=d_no hi lo b i (by omega) (by have:=HI.out;omega) hge
            rw [← er,← ex,← ec] at hge
            rw [y1,y2,← er,← ex,← ec,← eq,er1,Nat.mod_eq_of_lt (by omega)]
            exact ⟨rfl,rfl⟩
          have LAST:Hid (r=0→x=0→(hi*M+lo)%b=r∧(hi*M+lo) / b=q):=by
            intro h0 h0'
            rw [er] at h0;rw [ex] at h0'
            obtain ⟨y1,y2⟩:=d_early (by have:=HI.out;omega) h0 h0'
            exact ⟨by rw [← y1,er],by rw [← y2,eq]⟩
          have ei:256-64*g-m=i+1:=by have:=HI.out;omega
          have hv1:ov≠0→b≤2*r+c:=by
            intro h
            rw [eov] at h
            have:M≤2*r+c:=by
              by_cases hh:2*r+c<M
              · rw [Nat.div_eq_of_lt hh] at h;exact absurd rfl h
              · omega
            omega
          have hv0:ov=0→r1=2*r+c:=by
            intro h
            rw [eov] at h
            rw [er1]
            exact Nat.mod_eq_of_lt (Nat.lt_of_div_eq_zero vK h)
          rw [← ex] at P1;rw [← er] at P4;rw [← eq] at P3
          have EX':=Lib.hid ex';have HV1:=Lib.hid hv1;have HV0:=Lib.hid hv0;have EI:=Lib.hid ei
          clear ex er eq ex' ec er1 eov er2 cbit hv1 hv0 ei p255
          have E1:=fun W=>eqlU0 r rlt W
          have E2:=fun W=>eqlU0 x xlt W
          have c1:=P1.cell;have f1:=P1.free
          have c2:=P2.cell
          have c4':=P4.cell;have f4':=P4.free
          have c5:=P5.cell
          by_cases hend:r=0∧x=0
          · obtain ⟨hr0, hx0⟩ := hend
            obtain ⟨L1,L2⟩:=LAST.out hr0 hx0
            have hd:decide (r=0)=true:=decide_eq_true hr0
            have hd2:decide (x=0)=true:=decide_eq_true hx0
            have HL1:=Lib.hid L1;have HL2:=Lib.hid L2
            clear L1 L2 hr0 hx0
            have c3:=P3.cell;have f3:=P3.free
            go_wp2
            go_region
            go_wp2
            rw [Exit.noGoto_ret]
            go_big_open
            refine bodyPost_ret (y5 rfl _ _ _ _ _ _ rfl rfl ((P3.set4 _ _ _ _).other4 (by omega) _ _ _ _).drew ((P4.other4 (by omega) _ _ _ _).set4 _ _ _ _).drew rfl rfl) rfl ?_
            rw [HL1.out,HL2.out]
            refine ⟨rfl,?_⟩
            (exact bt)
          · have hT : (decide (r = 0) = false) ∨ (decide (r = 0) = true ∧ decide (x = 0) = false) := by
              by_cases h:r=0
              · exact Or.inr ⟨decide_eq_true h,decide_eq_false (fun hx=>hend ⟨h,hx⟩)⟩
              · exact Or.inl (decide_eq_false h)
            clear hend
            by_cases hov:ov=0
            · have hob : ((ov : Int) != 0) = false := by rw [hov]; rfl
              have hr1:=HV0.out hov
              clear hov
              by_cases hge:b≤2*r+c
              · have hcm : 0 ≤ fJ r1 b := cmp_ge (by omega)
                have HGE:=Lib.hid hge
                clear hr1 hge
                rcases hT with hd | ⟨hd,hd2⟩
                all_goals
                  go_wp2_with fail
                  refine (D1.out _).mono ?_;rintro e w2 ⟨rfl,hb2⟩;have Q1:=P1.below hb2;have Q2:=P2.below hb2;have Q3:=P3.below hb2;have Q4:=P4.below hb2;have Q5:=P5.below hb2;have B2:Below w.heap.size w w2:=B0.trans (hb2.mono B0.size);have hs2:=hb2.size;clear c1 f1 c2 c4' f4' c5 hb2;have c1:=Q1.cell;have f1:=Q1.free;have c4':=Q4.cell
                  go_wp2_with fail
                  refine (D2.out _).mono ?_;rintro e w4 ⟨rfl,hb4⟩;have R1:=(Q1.set4 _ _ _ _).below hb4;have R2:=(Q2.other4 (by omega) _ _ _ _).below hb4;have R3:=(Q3.other4 (by omega) _ _ _ _).below hb4;have R4:=(Q4.other4 (by omega) _ _ _ _).below hb4;have R5:=(Q5.other4 (by omega) _ _ _ _).below hb4;have B4:Below w.heap.size w w4:=Below.trans (by (exact bt)) (hb4.mono (by simp;have:=B2.size;omega));have hs4:=hb4.size;simp at hs4;clear c1 f1 c4' hb4 Q1 Q2 Q3 Q4 Q5;have c4':=R4.cell;have f4':=R4.free;have c2:=R2.cell
                  go_wp2_with fail
                  refine (D4.out _).mono ?_;rintro e w5 ⟨rfl,hb5⟩;have T1:=(R1.other4 (by omega) _ _ _ _).below hb5;have T2:=(R2.other4 (by omega) _ _ _ _).below hb5;have T3:=(R3.other4 (by omega) _ _ _ _).below hb5;have T4:=(R4.set4 _ _ _ _).below hb5;have T5:=(R5.other4 (by omega) _ _ _ _).below hb5;have B5:Below w.heap.size w w5:=Below.trans (by (exact bt)) (hb5.mono (by simp;have:=B4.size;omega));have hs5:=hb5.size;simp at hs5;clear c4' f4' c2 hb5 R1 R2 R3 R4 R5;have c4':=T4.cell;have f4':=T4.free;have c2:=T2.cell
                  go_wp2_with fail
                  refine (D3.out _).mono ?_;rintro e w6 ⟨rfl,hb6⟩;have S1:=T1.below hb6;have S2:=T2.below hb6;have S3:=T3.below hb6;have S4:=T4.below hb6;have S5:=T5.below hb6;have B6:Below w.heap.size w w6:=B5.trans (hb6.mono B5.size);have hs6:=hb6.size;clear c4' f4' c2 hb6 T1 T2 T3 T4 T5;have c4':=S4.cell;have f4':=S4.free;have f3:=S3.free;have cg:w6.cell? ⟨w.heap.size+1+1+1,g,none⟩=some (.int .u64 (wd q g)):=by rw [S3.cell,lL q g (by omega)]
                  go_wp2
                  go_region
                  go_wp2
                  go_roundg m
                  case rel =>
                    obtain ⟨y1,y2,y3⟩:=YES.out HGE.out
                    rw [EI.out,x8 m (by omega)]
                    refine ⟨by omega,rfl,?_,by omega,by simp;omega,?_,?_,?_,?_,?_⟩
                    · (exact bt)
                    · rw [← EX'.out];exact ((S1.other4 (by omega) _ _ _ _).other (by omega) _).drew
                    · exact ((S2.other4 (by omega) _ _ _ _).other (by omega) _).drew
                    · rw [y2,← mF q g m (by omega) (by omega) y3];exact ((S3.other4 (by omega) _ _ _ _).set _).drew
                    · rw [y1];exact ((S4.set4 _ _ _ _).other (by omega) _).drew
                    · exact ((S5.other4 (by omega) _ _ _ _).other (by omega) _).drew
                  case measure=>omega
              · have hcm : fJ r1 b < 0 := cmp_lt (by omega)
                have HGE:=Lib.hid hge
                clear hr1 hge
                rcases hT with hd | ⟨hd,hd2⟩
                all_goals
                  go_wp2_with fail
                  refine (D1.out _).mono ?_;rintro e w2 ⟨rfl,hb2⟩;have Q1:=P1.below hb2;have Q2:=P2.below hb2;have Q3:=P3.below hb2;have Q4:=P4.below hb2;have Q5:=P5.below hb2;have B2:Below w.heap.size w w2:=B0.trans (hb2.mono B0.size);have hs2:=hb2.size;clear c1 f1 c2 c4' f4' c5 hb2;have c1:=Q1.cell;have f1:=Q1.free;have c4':=Q4.cell
                  go_wp2_with fail
                  refine (D2.out _).mono ?_;rintro e w4 ⟨rfl,hb4⟩;have R1:=(Q1.set4 _ _ _ _).below hb4;have R2:=(Q2.other4 (by omega) _ _ _ _).below hb4;have R3:=(Q3.other4 (by omega) _ _ _ _).below hb4;have R4:=(Q4.other4 (by omega) _ _ _ _).below hb4;have R5:=(Q5.other4 (by omega) _ _ _ _).below hb4;have B4:Below w.heap.size w w4:=Below.trans (by (exact bt)) (hb4.mono (by simp;have:=B2.size;omega));have hs4:=hb4.size;simp at hs4;clear c1 f1 c4' hb4 Q1 Q2 Q3 Q4 Q5;have c4':=R4.cell;have f4':=R4.free;have c2:=R2.cell
                  go_wp2_with fail
                  refine (D4.out _).mono ?_;rintro e w5 ⟨rfl,hb5⟩;have T1:=(R1.other4 (by omega) _ _ _ _).below hb5;have T2:=(R2.other4 (by omega) _ _ _ _).below hb5;have T3:=(R3.other4 (by omega) _ _ _ _).below hb5;have T4:=(R4.set4 _ _ _ _).below hb5;have T5:=(R5.other4 (by omega) _ _ _ _).below hb5;have B5:Below w.heap.size w w5:=Below.trans (by (exact bt)) (hb5.mono (by simp;have:=B4.size;omega));have hs5:=hb5.size;simp at hs5;clear c4' f4' c2 hb5 R1 R2 R3 R4 R5;have c4':=T4.cell;have f4':=T4.free;have c2:=T2.cell
                  go_wp2
                  go_roundg m
                  case rel =>
                    obtain ⟨y1,y2⟩:=NO.out (by have:=HGE.out;omega)
                    rw [EI.out]
                    exact ⟨by omega,rfl,B5,by omega,by omega,by rw [← EX'.out];exact T1,T2,by rw [y2];exact T3,by rw [y1];exact T4,T5⟩
                  case measure=>omega
            · have hob : ((ov : Int) != 0) = true := by rw [bne_iff_ne]; omega
              have HGE:=Lib.hid (HV1.out hov)
              clear hov
              rcases hT with hd | ⟨hd,hd2⟩
              all_goals
                go_wp2_with fail
                refine (D1.out _).mono ?_;rintro e w2 ⟨rfl,hb2⟩;have Q1:=P1.below hb2;have Q2:=P2.below hb2;have Q3:=P3.below hb2;have Q4:=P4.below hb2;have Q5:=P5.below hb2;have B2:Below w.heap.size w w2:=B0.trans (hb2.mono B0.size);have hs2:=hb2.size;clear c1 f1 c2 c4' f4' c5 hb2;have c1:=Q1.cell;have f1:=Q1.free;have c4':=Q4.cell
                go_wp2_with fail
                refine (D2.out _).mono ?_;rintro e w4 ⟨rfl,hb4⟩;have R1:=(Q1.set4 _ _ _ _).below hb4;have R2:=(Q2.other4 (by omega) _ _ _ _).below hb4;have R3:=(Q3.other4 (by omega) _ _ _ _).below hb4;have R4:=(Q4.other4 (by omega) _ _ _ _).below hb4;have R5:=(Q5.other4 (by omega) _ _ _ _).below hb4;have B4:Below w.heap.size w w4:=Below.trans (by (exact bt)) (hb4.mono (by simp;have:=B2.size;omega));have hs4:=hb4.size;simp at hs4;clear c1 f1 c4' hb4 Q1 Q2 Q3 Q4 Q5;have c4':=R4.cell;have f4':=R4.free;have c2:=R2.cell
                go_wp2_with fail
                refine (D3.out _).mono ?_;rintro e w6 ⟨rfl,hb6⟩;have S1:=(R1.other4 (by omega) _ _ _ _).below hb6;have S2:=(R2.other4 (by omega) _ _ _ _).below hb6;have S3:=(R3.other4 (by omega) _ _ _ _).below hb6;have S4:=(R4.set4 _ _ _ _).below hb6;have S5:=(R5.other4 (by omega) _ _ _ _).below hb6;have B6:Below w.heap.size w w6:=Below.trans (by (exact bt)) (hb6.mono (by simp;have:=B4.size;omega));have hs6:=hb6.size;simp at hs6;clear c4' f4' c2 hb6 R1 R2 R3 R4 R5;have c4':=S4.cell;have f4':=S4.free;have f3:=S3.free;have cg:w6.cell? ⟨w.heap.size+1+1+1,g,none⟩=some (.int .u64 (wd q g)):=by rw [S3.cell,lL q g (by omega)]
                go_wp2
                go_region
                go_wp2
                go_roundg m
                case rel =>
                  obtain ⟨y1,y2,y3⟩:=YES.out HGE.out
                  rw [EI.out,x8 m (by omega)]
                  refine ⟨by omega,rfl,?_,by omega,by simp;omega,?_,?_,?_,?_,?_⟩
                  · (exact bt)
                  · rw [← EX'.out];exact ((S1.other4 (by omega) _ _ _ _).other (by omega) _).drew
                  · exact ((S2.other4 (by omega) _ _ _ _).other (by omega) _).drew
                  · rw [y2,← mF q g m (by omega) (by omega) y3];exact ((S3.other4 (by omega) _ _ _ _).set _).drew
                  · rw [y1];exact ((S4.set4 _ _ _ _).other (by omega) _).drew
                  · exact ((S5.other4 (by omega) _ _ _ _).other (by omega) _).drew
                case measure=>omega
def nJ (A i:Nat):Bool:=decide (A / 2^i%2=1)
theorem bit_wd (A q i:Nat) (h:i / 64=q):(bits .and .u64 (wd A q / 2^(i%64)) 1==1)=nJ A i:=by
  rw [yI]
  have e1:((A / 2^(64*q)%2^64:Nat):Int) / 2^(i%64)=((A / 2^(64*q)%2^64 / 2^(i%64):Nat):Int):=by simp
  generalize hx:A / 2^(64*q)%2^64 / 2^(i%64)=x at *
  have hlt:x<18446744073709551616:=by
    rw [← hx]
    exact Nat.lt_of_le_of_lt (Nat.div_le_self _ _) (Nat.mod_lt _ (by decide))
  have h2:x%2=A / 2^i%2:=by
    rw [← hx]
    have e64:2^64=2^(i%64)*2^(64-i%64):=by rw [← Nat.pow_add];congr 1;omega
    rw [e64,Nat.mod_mul_right_div_self,Nat.div_div_eq_div_mul,← Nat.pow_add,show 64*q+i%64=i by omega]
    exact Nat.mod_mod_of_dvd _ ⟨2^(64-i%64-1),by rw [← Nat.pow_succ'];congr 1;omega⟩
  rw [e1]
  have h3:=bits_and_u64_nat x 1 hlt (by omega)
  have h4:x&&&1=x%2:=Nat.and_one_is_mod x
  rw [h4,h2] at h3
  change (bits .and .u64 (x:Int) ((1:Nat):Int)==1)=_
  rw [h3]
  unfold nJ
  by_cases hb:A / 2^i%2=1
  · rw [hb,decide_eq_true rfl];rfl
  · rw [decide_eq_false hb]
    have:A / 2^i%2=0:=by omega
    rw [this];rfl
set_option maxHeartbeats 1000000 in
theorem rW (A i:Nat) (w:World) (hi:i<256) :
    Calls Tryz.prog 121 #[U A,.int .i64 i] w fun e w'=>e=.returned (.bool (nJ A i))∧Below w.heap.size w w':=by
  rcases (by omega:(i:Int) / 64=0∨(i:Int) / 64=1∨(i:Int) / 64=2∨(i:Int) / 64=3) with h | h | h | h
  all_goals
    go_enter Tryz.func121,Tryz.ntmps121
    go_wp2
    go_ret
    first | refine ⟨zS (bit_wd A 0 i (by omega)),?_⟩ | refine ⟨zS (bit_wd A 1 i (by omega)),?_⟩ | refine ⟨zS (bit_wd A 2 i (by omega)),?_⟩ | refine ⟨zS (bit_wd A 3 i (by omega)),?_⟩
    (exact bt)
theorem dbit_eq (lo i:Nat) (h:i<256):2*dLo lo i / M=lo / 2^(255-i)%2:=by
  have h1:=dT_step 0 lo i h
  rw [Nat.zero_mul,Nat.zero_add] at h1
  unfold dT at h1
  have e:256-i=(255-i)+1:=by omega
  rw [show 256-(i+1)=255-i by omega,e,Nat.pow_succ,← Nat.div_div_eq_div_mul] at h1
  have:=dbit lo i
  omega
theorem top_bit {r:Nat} (h:r<M):nJ r 255=decide (M≤2*r):=by
  unfold nJ
  rw [decide_eq_decide]
  have e:(2:Nat)^255=57896044618658097711785492504343953926634992332820282019728792003956564819968:=by decide +kernel
  rw [e,mQ] at *
  omega
theorem dbl_plus {r c:Nat} (hc:c≤1):(r+r)%M+c=(2*r+c)%M∧(r+r)%M%2=0:=by
  rw [mQ] at *;omega
set_option maxHeartbeats 1000000 in
theorem rdiv_no (hi lo b:Nat) (w:World) (h1:hi<M) (h3:b<M) (hle:b≤hi) :
    Calls Tryz.prog 105 #[U hi,U lo,U b] w fun e w'=>e=.returned (.tuple #[U 0,U 0,.bool false])∧Below w.heap.size w w':=by
  have hc:fJ b hi≤0:=by unfold fJ;split<;>(try split)<;>omega
  go_enter Tryz.func105,Tryz.ntmps105
  go_wp2_with fail
  refine (xAI b hi _ h3 h1).mono ?_;rintro e w1 ⟨rfl,hb⟩
  have O3:Own w1 (w.heap.size+1+1+1) #[.int .u64 0,.int .u64 0,.int .u64 0,.int .u64 0]:=Own.below (hp_5_3 _ _ _ _ _ _) hb
  have O4:Own w1 (w.heap.size+1+1+1+1) #[.int .u64 0,.int .u64 0,.int .u64 0,.int .u64 0]:=Own.below (hp_5_4 _ _ _ _ _ _) hb
  have hb':Below w.heap.size w w1:=Below.trans (by (exact bt)) (hb.mono (by simp only [World.size_alloc];omega))
  clear hb
  have c3:=O3.cell;have f3:=O3.free;have c4:=O4.cell;have f4:=O4.free
  go_wp2
  go_region
  go_wp2
  refine bodyPost_ret (y5 rfl _ _ _ _ _ _ rfl rfl ((O3.set4 _ _ _ _).other4 (by omega) _ _ _ _).drew ((O4.other4 (by omega) _ _ _ _).set4 _ _ _ _).drew rfl rfl) rfl ?_
  refine ⟨ret_UUb U0_eq U0_eq rfl,?_⟩
  (exact bt)
def RDivW (w wr:World) (hi lo b i:Nat):Prop :=
  Below w.heap.size w wr ∧
  Own wr (w.heap.size+1) (cU lo)∧Own wr (w.heap.size+1+1) (cU b) ∧
  Own wr (w.heap.size+1+1+1) (cU (dQ (hi*M+lo) b i))∧Own wr (w.heap.size+1+1+1+1) (cU (dR (hi*M+lo) b i))
set_option maxHeartbeats 4000000 in
theorem rdiv_yes (hi lo b:Nat) (w:World) (h1:hi<M) (h2:lo<M) (h3:b<M) (hle:hi<b) :
    Calls Tryz.prog 105 #[U hi,U lo,U b] w fun e w'=>e=.returned (.tuple #[U ((hi*M+lo) / b),U ((hi*M+lo)%b),.bool true])∧Below w.heap.size w w':=by
  have hc:0<fJ b hi:=by rw [cmpN_gt hle];omega
  go_enter Tryz.func105,Tryz.ntmps105
  go_wp2_with fail
  refine (xAI b hi _ h3 h1).mono ?_;rintro e w1 ⟨rfl,hb⟩
  have O0:Own w1 w.heap.size (cU hi):=Own.below (hp_5_0 _ _ _ _ _ _) hb
  have O1:Own w1 (w.heap.size+1) (cU lo):=Own.below (hp_5_1 _ _ _ _ _ _) hb
  have O2:Own w1 (w.heap.size+1+1) (cU b):=Own.below (hp_5_2 _ _ _ _ _ _) hb
  have O3:Own w1 (w.heap.size+1+1+1) #[.int .u64 0,.int .u64 0,.int .u64 0,.int .u64 0]:=Own.below (hp_5_3 _ _ _ _ _ _) hb
  have O4:Own w1 (w.heap.size+1+1+1+1) #[.int .u64 0,.int .u64 0,.int .u64 0,.int .u64 0]:=Own.below (hp_5_4 _ _ _ _ _ _) hb
  have hB:Below w.heap.size w w1:=Below.trans (by (exact bt)) (hb.mono (by simp only [World.size_alloc];omega))
  clear hb
  have c0:=O0.cell;have c4:=O4.cell;have f4:=O4.free
  go_wp2
  go_loopg [9] 256 (fun k p wr=>k≤256∧p=.int .i64 (k-1)∧RDivW w wr hi lo b (256-k))
  case atStart =>
    obtain ⟨e1,e2⟩:=d_start h2 hle
    refine ⟨by omega,rfl,?_,?_,?_,?_,?_⟩
    · (exact bt)
    · exact O1.other4 (by omega) _ _ _ _
    · exact O2.other4 (by omega) _ _ _ _
    · rw [Nat.sub_self,e2,cU,l9,l9,l9,l9];exact O3.other4 (by omega) _ _ _ _
    · rw [Nat.sub_self,e1];exact O4.set4 _ _ _ _
  case round =>
    obtain ⟨hk,rfl,hW⟩:=hrel
    by_cases hk0:gk=0
    · subst hk0
      obtain ⟨B0,P1,P2,P3,P4⟩:=hW
      obtain ⟨y1,y2⟩:=d_end (hi*M+lo) b
      rw [Nat.sub_zero,y1] at P4
      rw [Nat.sub_zero,y2] at P3
      clear y1 y2 P1
      obtain ⟨r,er⟩:∃ r,r=(hi*M+lo)%b:=⟨_,rfl⟩
      obtain ⟨q,eq⟩:∃ q,q=(hi*M+lo) / b:=⟨_,rfl⟩
      rw [← er] at P4;rw [← eq] at P3
      have ER:=Lib.hid er;have EQ:=Lib.hid eq
      clear er eq
      have c3:=P3.cell;have f3:=P3.free;have c4':=P4.cell;have f4':=P4.free
      go_wp2
      go_region
      go_wp2
      refine bodyPost_ret (y5 rfl _ _ _ _ _ _ rfl rfl ((P3.set4 _ _ _ _).other4 (by omega) _ _ _ _).drew ((P4.other4 (by omega) _ _ _ _).set4 _ _ _ _).drew rfl rfl) rfl ?_
      rw [← ER.out,← EQ.out]
      refine ⟨rfl,?_⟩
      (exact bt)
    · obtain ⟨m, rfl⟩ : ∃ m, gk = m + 1 := ⟨gk - 1, by omega⟩
      have eg:((m+1:Nat):Int)-1=m:=by omega
      rw [eg]
      clear eg
      obtain ⟨i,hi2⟩:∃ i,i=256-(m+1):=⟨_,rfl⟩
      rw [← hi2] at hW
      have HI:Hid (i+m=255):=by show _=_;omega
      have i256:i<256:=by omega
      have m256:m<256:=by omega
      have p255:255-i=m:=by omega
      clear hi2
      obtain ⟨B0,P1,P2,P3,P4⟩:=hW
      obtain ⟨r,er⟩:∃ r,r=dR (hi*M+lo) b i:=⟨_,rfl⟩
      obtain ⟨q,eq⟩:∃ q,q=dQ (hi*M+lo) b i:=⟨_,rfl⟩
      obtain ⟨c,ec⟩:∃ c:Nat,c=2*dLo lo i / M:=⟨_,rfl⟩
      have c1:c≤1:=by rw [ec];exact dbit lo i
      have rlt:r<M:=by rw [er];exact Nat.lt_trans (dR_lt _ b i (by omega)) h3
      obtain ⟨s,es⟩:∃ s,s=(r+r)%M:=⟨_,rfl⟩
      obtain ⟨r1,er1⟩:∃ r1,r1=(2*r+c)%M:=⟨_,rfl⟩
      obtain ⟨r2,er2⟩:∃ r2,r2=(r1+M-b)%M:=⟨_,rfl⟩
      obtain ⟨sc,sev⟩:=dbl_plus (r:=r) c1
      rw [← es,← er1] at sc
      rw [← es] at sev
      have r1lt:r1<M:=by rw [er1];exact Nat.mod_lt _ vK
      have slt:s<M:=by rw [es];exact Nat.mod_lt _ vK
      have D1:Hid (∀ W,Calls Tryz.prog 121 #[U r,.int .i64 255] W fun e w'=>e=.returned (.bool (decide (M≤2*r)))∧Below W.heap.size W w'):=by
        intro W
        have h:=rW r 255 W (by omega)
        rw [top_bit rlt] at h;exact h
      have D2:Hid (∀ W,Calls Tryz.prog 120 #[U r,U r] W fun e w'=>e=.returned (.tuple #[U s,.bool (decide (M≤r+r))])∧Below W.heap.size W w'):=by
        intro W
        have h:=radd_any r r W rlt rlt
        rw [← es] at h;exact h
      have D3:Hid (∀ W,Calls Tryz.prog 121 #[U lo,.int .i64 m] W fun e w'=>e=.returned (.bool (decide (c=1)))∧Below W.heap.size W w'):=by
        intro W
        have h:=rW lo m W m256
        rw [show nJ lo m=decide (c=1) by unfold nJ;rw [ec,dbit_eq lo i i256,p255]] at h;exact h
      have D4:Hid (∀ W,Calls Tryz.prog 140 #[U r1,U b] W fun e w'=>e=.returned (.int .i64 (fJ r1 b))∧Below W.heap.size W w'):=fun W=>xAI r1 b W r1lt h3
      have D5:Hid (∀ W,Calls Tryz.prog 141 #[U r1,U b] W fun e w'=>e=.returned (.tuple #[U r2,.bool (decide (r1<b))])∧Below W.heap.size W w'):=by
        intro W
        have h:=zQ r1 b W r1lt h3
        rw [← er2] at h;exact h
      have BITR:Hid (c=1→(cU s).setIfInBounds 0 (.int .u64 (bits .or .u64 (wd s 0) 1))=cU r1):=by
        intro h
        have hs:=mF s 0 0 (by omega) (by omega) (by simpa using sev)
        simp only [Nat.mul_zero,Nat.add_zero,Nat.pow_zero] at hs
        have hp:(2:Int)^0=1:=rfl
        rw [hp] at hs
        rw [hs];congr 1;omega
      have SAME:Hid (c=0→s=r1):=by intro h;show s=r1;omega
      have p1:255-i=64*(m / 64)+m%64:=by omega
      have YES:Hid (b≤2*r+c→dR (hi*M+lo) b (i+1)=r2∧dQ (hi*M+lo) b (i+1)=q+2^(64*(m / 64)+m%64)∧q%2^(64*(m / 64)+m%64+1)=0):=by
        intro hge
        have hq:=dQ_low (hi*M+lo) b i i256
        rw [er,ec] at hge
        obtain ⟨y1,y2⟩:=d_yes hi lo b i (by omega) i256 hge
        have hlt:=dR_lt (hi*M+lo) b (i+1) (by omega)
        rw [y1,← er,← ec] at hlt
        rw [← er,← ec] at hge
        rw [y1,y2,← er,← ec,← eq,p1,er2,er1,step_r2 hge (by omega) h3]
        rw [← eq,p1] at hq
        exact ⟨rfl,rfl,hq⟩
      have NO:Hid (2*r+c<b→dR (hi*M+lo) b (i+1)=r1∧dQ (hi*M+lo) b (i+1)=q):=by
        intro hge
        rw [er,ec] at hge
        obtain ⟨y1,y2⟩:=d_no hi lo b i (by omega) i256 hge
        rw [← er,← ec] at hge
        rw [y1,y2,← er,← ec,← eq,er1,Nat.mod_eq_of_lt (by omega)]
        exact ⟨rfl,rfl⟩
      have ei:256-m=i+1:=by have:=HI.out;omega
      have hv1:M≤2*r→b≤2*r+c:=by intro h;omega
      have hv0: ¬ M≤2*r→r1=2*r+c:=by
        intro h
        rw [er1]
        apply Nat.mod_eq_of_lt
        rw [mQ] at *;omega
      rw [← er] at P4;rw [← eq] at P3
      have HV1:=Lib.hid hv1;have HV0:=Lib.hid hv0;have EI:=Lib.hid ei
      have C1:=Lib.hid c1
      clear er eq ec es er1 er2 sc sev hv1 hv0 ei p1 p255 c1
      have hbits:(decide (c=1)=true∧c=1)∨(decide (c=1)=false∧c=0):=by
        have:=C1.out
        by_cases h:c=1
        · exact Or.inl ⟨decide_eq_true h,h⟩
        · exact Or.inr ⟨decide_eq_false h,by omega⟩
      have cc4:=P4.cell
      go_wp2_with fail
      refine (D1.out _).mono ?_;rintro e wx ⟨rfl,hbx⟩
      have Q1:=P1.below hbx;have Q2:=P2.below hbx;have Q3:=P3.below hbx;have Q4:=P4.below hbx;have BX:Below w.heap.size w wx:=B0.trans (hbx.mono B0.size);clear hbx B0 P1 P2 P3 P4
      obtain ⟨P1,P2,P3,P4,B0⟩:Own wx (w.heap.size+1) (cU lo)∧Own wx (w.heap.size+1+1) (cU b)∧Own wx (w.heap.size+1+1+1) (cU q)∧Own wx (w.heap.size+1+1+1+1) (cU r)∧Below w.heap.size w wx:=⟨Q1,Q2,Q3,Q4,BX⟩;clear Q1 Q2 Q3 Q4 BX
      obtain ⟨wa,rfl⟩:∃ wa:World,wa=wx:=⟨_,rfl⟩
      clear cc4
      have cc4:=P4.cell
      go_wp2_with fail
      refine (D2.out _).mono ?_;rintro e wx ⟨rfl,hbx⟩
      have Q1:=P1.below hbx;have Q2:=P2.below hbx;have Q3:=P3.below hbx;have Q4:=P4.below hbx;have BX:Below w.heap.size w wx:=B0.trans (hbx.mono B0.size);clear hbx B0 P1 P2 P3 P4
      obtain ⟨P1,P2,P3,P4,B0⟩:Own wx (w.heap.size+1) (cU lo)∧Own wx (w.heap.size+1+1) (cU b)∧Own wx (w.heap.size+1+1+1) (cU q)∧Own wx (w.heap.size+1+1+1+1) (cU r)∧Below w.heap.size w wx:=⟨Q1,Q2,Q3,Q4,BX⟩;clear Q1 Q2 Q3 Q4 BX
      clear cc4
      have cc4:=P4.cell;have ff4:=P4.free;have cc1:=P1.cell
      go_wp2_with fail
      refine (D3.out _).mono ?_;rintro e wy ⟨rfl,hby⟩
      have R1:=(P1.other4 (by omega) _ _ _ _).below hby;have R2:=(P2.other4 (by omega) _ _ _ _).below hby;have R3:=(P3.other4 (by omega) _ _ _ _).below hby;have R4:=(P4.set4 _ _ _ _).below hby
      have BY:Below w.heap.size w wy:=Below.trans (by (exact bt)) (hby.mono (by simp;have:=B0.size;omega))
      clear cc4 ff4 cc1 hby P1 P2 P3 P4 B0
      have hm0:(0:Int)≤(m:Int):=by omega
      rcases hbits with ⟨hbt,hc1⟩ | ⟨hbt,hc0⟩
      · have hrow := BITR.out hc1
        have hrow': #[Value.int .u64 (bits .or .u64 (wd s 0) 1),.int .u64 (wd s 1),.int .u64 (wd s 2),.int .u64 (wd s 3)]=cU r1:=hrow
        simp only [cU,Array.mk.injEq,List.cons.injEq,Value.int.injEq,true_and,and_true] at hrow'
        obtain ⟨e0,e1,e2,e3⟩:=hrow'
        have T1:=R1.other (g':=w.heap.size+1+1+1+1) (i:=0) (by omega) (.int .u64 (wd r1 0));have T2:=R2.other (g':=w.heap.size+1+1+1+1) (i:=0) (by omega) (.int .u64 (wd r1 0));have T3:=R3.other (g':=w.heap.size+1+1+1+1) (i:=0) (by omega) (.int .u64 (wd r1 0))
        have T4:Own (wy.setCell ⟨w.heap.size+1+1+1+1,0,none⟩ (.int .u64 (wd r1 0))) (w.heap.size+1+1+1+1) (cU r1):=by
          have h:=R4.set (i:=0) (.int .u64 (wd r1 0))
          rw [← e0] at h ⊢
          rw [← hrow];exact h
        have BT:Below w.heap.size w (wy.setCell ⟨w.heap.size+1+1+1+1,0,none⟩ (.int .u64 (wd r1 0))):=by (exact bt)
        have cc4:=R4.cell;have ff4:=R4.free;have cc2:=R2.cell
        clear hrow hc1 BY
        by_cases hov:M≤2*r
        · have hd : decide (M ≤ 2 * r) = true := decide_eq_true hov
          have HGE:=Lib.hid (HV1.out hov)
          clear hov
          go_wp2_with fail
          refine (D5.out _).mono ?_;rintro e wz ⟨rfl,hbz⟩
          have S1:=T1.below hbz;have S2:=T2.below hbz;have S3:=T3.below hbz;have S4:=T4.below hbz
          have BS:=BT.trans (hbz.mono BT.size)
          clear cc4 ff4 cc2
          have cc4:=S4.cell;have ff4:=S4.free;have ff3:=S3.free
          have cg:wz.cell? ⟨w.heap.size+1+1+1,m / 64,none⟩=some (.int .u64 (wd q (m / 64))):=by rw [S3.cell,lL q (m / 64) (by omega)]
          go_wp2
          go_region
          go_wp2
          go_roundg m
          case rel =>
            obtain ⟨y1,y2,y3⟩:=YES.out HGE.out
            rw [EI.out,x8 (m%64) (by omega)]
            refine ⟨by omega,rfl,?_,?_,?_,?_,?_⟩
            · (exact bt)
            · exact ((S1.other4 (by omega) _ _ _ _).other (by omega) _).drew
            · exact ((S2.other4 (by omega) _ _ _ _).other (by omega) _).drew
            · rw [y2,← mF q (m / 64) (m%64) (by omega) (by omega) y3];exact ((S3.other4 (by omega) _ _ _ _).set _).drew
            · rw [y1];exact ((S4.set4 _ _ _ _).other (by omega) _).drew
          case measure=>omega
        · have hd : decide (M ≤ 2 * r) = false := decide_eq_false hov
          have hr1:=HV0.out hov
          clear hov
          by_cases hge:b≤2*r+c
          · have hcm : 0 ≤ fJ r1 b := cmp_ge (by omega)
            have HGE:=Lib.hid hge
            clear hr1 hge
            go_wp2_with fail
            refine (D4.out _).mono ?_;rintro e wv ⟨rfl,hbv⟩
            obtain ⟨V1,V2,V3,V4,BV⟩:Own wv (w.heap.size+1) (cU lo)∧Own wv (w.heap.size+1+1) (cU b)∧Own wv (w.heap.size+1+1+1) (cU q)∧Own wv (w.heap.size+1+1+1+1) (cU r1)∧Below w.heap.size w wv:=⟨T1.below hbv,T2.below hbv,T3.below hbv,T4.below hbv,BT.trans (hbv.mono BT.size)⟩
            clear cc4 ff4 cc2 hbv T1 T2 T3 T4 BT R1 R2 R3 R4
            have T1:=V1;have T2:=V2;have T3:=V3;have T4:=V4;have BT:=BV
            have cc4:=V4.cell;have ff4:=V4.free;have cc2:=V2.cell
            go_wp2_with fail
            refine (D5.out _).mono ?_;rintro e wz ⟨rfl,hbz⟩
            have S1:=T1.below hbz;have S2:=T2.below hbz;have S3:=T3.below hbz;have S4:=T4.below hbz
            have BS:=BT.trans (hbz.mono BT.size)
            clear cc4 ff4 cc2
            have cc4:=S4.cell;have ff4:=S4.free;have ff3:=S3.free
            have cg:wz.cell? ⟨w.heap.size+1+1+1,m / 64,none⟩=some (.int .u64 (wd q (m / 64))):=by rw [S3.cell,lL q (m / 64) (by omega)]
            go_wp2
            go_region
            go_wp2
            go_roundg m
            case rel =>
              obtain ⟨y1,y2,y3⟩:=YES.out HGE.out
              rw [EI.out,x8 (m%64) (by omega)]
              refine ⟨by omega,rfl,?_,?_,?_,?_,?_⟩
              · (exact bt)
              · exact ((S1.other4 (by omega) _ _ _ _).other (by omega) _).drew
              · exact ((S2.other4 (by omega) _ _ _ _).other (by omega) _).drew
              · rw [y2,← mF q (m / 64) (m%64) (by omega) (by omega) y3];exact ((S3.other4 (by omega) _ _ _ _).set _).drew
              · rw [y1];exact ((S4.set4 _ _ _ _).other (by omega) _).drew
            case measure=>omega
          · have hcm : fJ r1 b < 0 := cmp_lt (by omega)
            have HGE:=Lib.hid hge
            clear hr1 hge
            go_wp2_with fail
            refine (D4.out _).mono ?_;rintro e wv ⟨rfl,hbv⟩
            have V1:=T1.below hbv;have V2:=T2.below hbv;have V3:=T3.below hbv;have V4:=T4.below hbv;have BV:=BT.trans (hbv.mono BT.size)
            go_wp2
            go_roundg m
            case rel =>
              obtain ⟨y1,y2⟩:=NO.out (by have:=HGE.out;omega)
              rw [EI.out]
              exact ⟨by omega,rfl,BV,V1,V2,by rw [y2];exact V3,by rw [y1];exact V4⟩
            case measure=>omega
      · have hsr := SAME.out hc0
        rw [hsr] at R4
        clear hc0 hsr
        have T1:=R1;have T2:=R2;have T3:=R3;have T4:=R4;have BT:=BY
        have cc4:=R4.cell;have ff4:=R4.free;have cc2:=R2.cell
        by_cases hov:M≤2*r
        · have hd : decide (M ≤ 2 * r) = true := decide_eq_true hov
          have HGE:=Lib.hid (HV1.out hov)
          clear hov
          go_wp2_with fail
          refine (D5.out _).mono ?_;rintro e wz ⟨rfl,hbz⟩
          have S1:=T1.below hbz;have S2:=T2.below hbz;have S3:=T3.below hbz;have S4:=T4.below hbz
          have BS:=BT.trans (hbz.mono BT.size)
          clear cc4 ff4 cc2
          have cc4:=S4.cell;have ff4:=S4.free;have ff3:=S3.free
          have cg:wz.cell? ⟨w.heap.size+1+1+1,m / 64,none⟩=some (.int .u64 (wd q (m / 64))):=by rw [S3.cell,lL q (m / 64) (by omega)]
          go_wp2
          go_region
          go_wp2
          go_roundg m
          case rel =>
            obtain ⟨y1,y2,y3⟩:=YES.out HGE.out
            rw [EI.out,x8 (m%64) (by omega)]
            refine ⟨by omega,rfl,?_,?_,?_,?_,?_⟩
            · (exact bt)
            · exact ((S1.other4 (by omega) _ _ _ _).other (by omega) _).drew
            · exact ((S2.other4 (by omega) _ _ _ _).other (by omega) _).drew
            · rw [y2,← mF q (m / 64) (m%64) (by omega) (by omega) y3];exact ((S3.other4 (by omega) _ _ _ _).set _).drew
            · rw [y1];exact ((S4.set4 _ _ _ _).other (by omega) _).drew
          case measure=>omega
        · have hd : decide (M ≤ 2 * r) = false := decide_eq_false hov
          have hr1:=HV0.out hov
          clear hov
          by_cases hge:b≤2*r+c
          · have hcm : 0 ≤ fJ r1 b := cmp_ge (by omega)
            have HGE:=Lib.hid hge
            clear hr1 hge
            go_wp2_with fail
            refine (D4.out _).mono ?_;rintro e wv ⟨rfl,hbv⟩
            obtain ⟨V1,V2,V3,V4,BV⟩:Own wv (w.heap.size+1) (cU lo)∧Own wv (w.heap.size+1+1) (cU b)∧Own wv (w.heap.size+1+1+1) (cU q)∧Own wv (w.heap.size+1+1+1+1) (cU r1)∧Below w.heap.size w wv:=⟨T1.below hbv,T2.below hbv,T3.below hbv,T4.below hbv,BT.trans (hbv.mono BT.size)⟩
            clear cc4 ff4 cc2 hbv T1 T2 T3 T4 BT R1 R2 R3 R4
            have T1:=V1;have T2:=V2;have T3:=V3;have T4:=V4;have BT:=BV
            have cc4:=V4.cell;have ff4:=V4.free;have cc2:=V2.cell
            go_wp2_with fail
            refine (D5.out _).mono ?_;rintro e wz ⟨rfl,hbz⟩
            have S1:=T1.below hbz;have S2:=T2.below hbz;have S3:=T3.below hbz;have S4:=T4.below hbz
            have BS:=BT.trans (hbz.mono BT.size)
            clear cc4 ff4 cc2
            have cc4:=S4.cell;have ff4:=S4.free;have ff3:=S3.free
            have cg:wz.cell? ⟨w.heap.size+1+1+1,m / 64,none⟩=some (.int .u64 (wd q (m / 64))):=by rw [S3.cell,lL q (m / 64) (by omega)]
            go_wp2
            go_region
            go_wp2
            go_roundg m
            case rel =>
              obtain ⟨y1,y2,y3⟩:=YES.out HGE.out
              rw [EI.out,x8 (m%64) (by omega)]
              refine ⟨by omega,rfl,?_,?_,?_,?_,?_⟩
              · (exact bt)
              · exact ((S1.other4 (by omega) _ _ _ _).other (by omega) _).drew
              · exact ((S2.other4 (by omega) _ _ _ _).other (by omega) _).drew
              · rw [y2,← mF q (m / 64) (m%64) (by omega) (by omega) y3];exact ((S3.other4 (by omega) _ _ _ _).set _).drew
              · rw [y1];exact ((S4.set4 _ _ _ _).other (by omega) _).drew
            case measure=>omega
          · have hcm : fJ r1 b < 0 := cmp_lt (by omega)
            have HGE:=Lib.hid hge
            clear hr1 hge
            go_wp2_with fail
            refine (D4.out _).mono ?_;rintro e wv ⟨rfl,hbv⟩
            have V1:=T1.below hbv;have V2:=T2.below hbv;have V3:=T3.below hbv;have V4:=T4.below hbv;have BV:=BT.trans (hbv.mono BT.size)
            go_wp2
            go_roundg m
            case rel =>
              obtain ⟨y1,y2⟩:=NO.out (by have:=HGE.out;omega)
              rw [EI.out]
              exact ⟨by omega,rfl,BV,V1,V2,by rw [y2];exact V3,by rw [y1];exact V4⟩
            case measure=>omega
def qQ (hi lo b:Nat):Nat:=if b≤hi then 0 else (hi*M+lo) / b
def iV (hi lo b:Nat):Nat:=if b≤hi then 0 else (hi*M+lo)%b
theorem div_any (hi lo b:Nat) (w:World) (h1:hi<M) (h2:lo<M) (h3:b<M) :
    Calls Tryz.prog 180 #[U hi,U lo,U b] w fun e w'=>e=.returned (.tuple #[U (qQ hi lo b),U (iV hi lo b),.bool (decide (hi<b))])∧Below w.heap.size w w':=by
  unfold qQ iV
  by_cases h:b≤hi
  · rw [if_pos h,if_pos h,decide_eq_false (by omega)];exact div_no hi lo b w h1 h3 h
  · rw [if_neg h,if_neg h,decide_eq_true (by omega)];exact div_yes hi lo b w h1 h2 h3 (by omega)
theorem rdiv_any (hi lo b:Nat) (w:World) (h1:hi<M) (h2:lo<M) (h3:b<M) :
    Calls Tryz.prog 105 #[U hi,U lo,U b] w fun e w'=>e=.returned (.tuple #[U (qQ hi lo b),U (iV hi lo b),.bool (decide (hi<b))])∧Below w.heap.size w w':=by
  unfold qQ iV
  by_cases h:b≤hi
  · rw [if_pos h,if_pos h,decide_eq_false (by omega)];exact rdiv_no hi lo b w h1 h3 h
  · rw [if_neg h,if_neg h,decide_eq_true (by omega)];exact rdiv_yes hi lo b w h1 h2 h3 (by omega)
open Go Go.Shelf
def lays129_ren:Go.Shelf.Ren:=⟨fun | 129=>131 | n=>n,fun | 3=>3 | 4=>4 | 5=>5 | 9=>9 | 46=>87 | 53=>52 | n=>n,fun | n=>n⟩
theorem lays129:Go.Proofs.Lays.n129 Tryz.prog lays129_ren:={
  mixed:=by kernel_rfl
  f129:=Tryz.func131.trans (congrArg some (by kernel_rfl))
  t3:=Tryz.underlying3
  a3:=Tryz.isAgg3
  z3:=Tryz.sizeOf3
  v3:=Tryz.zeroValue3
  t4:=Tryz.underlying4
  a4:=Tryz.isAgg4
  z4:=Tryz.sizeOf4
  v4:=Tryz.zeroValue4
  t5:=Tryz.underlying5
  a5:=Tryz.isAgg5
  z5:=Tryz.sizeOf5
  v5:=Tryz.zeroValue5
  t9:=Tryz.underlying9
  a9:=Tryz.isAgg9
  z9:=Tryz.sizeOf9
  v9:=Tryz.zeroValue9
  t46:=Tryz.underlying87
  a46:=Tryz.isAgg87
  z46:=Tryz.sizeOf87
  v46:=Tryz.zeroValue87
  t53:=Tryz.underlying52
  a53:=Tryz.isAgg52
  z53:=Tryz.sizeOf52
  v53:=Tryz.zeroValue52}
theorem len64_bit (x:Int) (w:World) (h0:0≤x) (h1:x≤18446744073709551615) :
    Calls Tryz.prog 131 #[.int .u64 x] w fun e w'=>e=.returned (.int .i64 (Lib.bitLen x.toNat))∧w'=w:=Any.bits_Len64 lays129 x w h0 h1
def lays264_ren:Go.Shelf.Ren:=⟨fun | 264=>154 | n=>n,fun | 46=>87 | 53=>52 | n=>n,fun | n=>n⟩
theorem lays264:Go.Proofs.Lays.n264 Tryz.prog lays264_ren:={
  mixed:=by kernel_rfl
  f264:=Tryz.func154.trans (congrArg some (by kernel_rfl))
  t46:=Tryz.underlying87
  a46:=Tryz.isAgg87
  z46:=Tryz.sizeOf87
  v46:=Tryz.zeroValue87
  t53:=Tryz.underlying52
  a53:=Tryz.isAgg52
  z53:=Tryz.sizeOf52
  v53:=Tryz.zeroValue52}
theorem mul64_nat (x y:Nat) (hx:x<18446744073709551616) (hy:y<18446744073709551616) (w:World) :
    Calls Tryz.prog 154 #[.int .u64 x,.int .u64 y] w fun e w'=>e=.returned (.tuple #[.int .u64 ((x*y / 18446744073709551616:Nat):Int),.int .u64 ((x*y%18446744073709551616:Nat):Int)])∧w'=w:=Any.bits_Mul64 lays264 x y hx hy w
def dG (A:Nat):Nat:=if A=0 then 0 else Nat.log2 A+1
theorem lenN_of {A k:Nat} (h1:2^k≤A) (h2:A<2^(k+1)):dG A=k+1:=by
  have h0:A≠0:=by have:0<2^k:=Nat.pow_pos (by decide);omega
  unfold dG
  rw [if_neg h0]
  have a:=(Nat.le_log2 h0).2 h1
  have b:=(Nat.log2_lt h0).2 h2
  omega
theorem zH {A k:Nat} (h:A<2^k):dG A≤k:=by
  unfold dG
  by_cases h0:A=0
  · rw [if_pos h0];omega
  · rw [if_neg h0];exact (Nat.log2_lt h0).2 h
theorem bitLen_lenN (x:Nat) (h:x<18446744073709551616):Lib.bitLen x=dG x:=by
  by_cases h0:x=0
  · subst h0;rfl
  · have h1 := Nat.log2_self_le h0
    have h2:x<2^(Nat.log2 x+1):=(Nat.log2_lt h0).1 (by omega)
    rw [Lib.bitLen_shift (Nat.log2 x) x h1 h,lenN_of h1 h2]
    have:x / 2^Nat.log2 x=1:=by
      apply Nat.div_eq_of_lt_le
      · omega
      · rw [Nat.pow_succ] at h2;omega
    rw [this];rfl
theorem wZ (x:Int) (w:World) (hx:Word x) :
    Calls Tryz.prog 131 #[.int .u64 x] w fun e w'=>e=.returned (.int .i64 (dG x.toNat))∧w=w':=by
  have h:=len64_bit x w hx.1 (by have:=hx.2;omega)
  rw [bitLen_lenN _ (by have:=hx.1;have:=hx.2;omega)] at h
  exact h.mono fun e w' ⟨a,b⟩=>⟨a,b.symm⟩
theorem len_word (A q:Nat) (x:Int) (hx:Word x) (h0:x≠0) (l:Nat) (hl:l<2^(64*q)) (hA:(A:Int)=x*2^(64*q)+l):dG A=64*q+dG x.toNat:=by
  obtain ⟨y,rfl⟩:=Int.eq_ofNat_of_zero_le hx.1
  have hy:y≠0:=fun h=>h0 (by rw [h];rfl)
  rw [Int.toNat_natCast]
  have e:A=y*2^(64*q)+l:=by
    have:((A:Nat):Int)=((y*2^(64*q)+l:Nat):Int):=by rw [hA];simp
    omega
  have h1:=Nat.log2_self_le hy
  have h2:y<2^(Nat.log2 y+1):=(Nat.log2_lt hy).1 (by omega)
  have hp:0<2^(64*q):=Nat.pow_pos (by decide)
  have k1:2^(64*q+Nat.log2 y)≤A:=by
    rw [Nat.pow_add,Nat.mul_comm,e]
    exact Nat.le_trans (Nat.mul_le_mul_right _ h1) (Nat.le_add_right _ _)
  have k2:A<2^(64*q+Nat.log2 y+1):=by
    rw [Nat.add_assoc,Nat.pow_add,Nat.mul_comm,e]
    have:(y+1)*2^(64*q)≤2^(Nat.log2 y+1)*2^(64*q):=Nat.mul_le_mul_right _ h2
    rw [Nat.add_mul] at this
    omega
  rw [lenN_of k1 k2,lenN_of h1 h2];omega
theorem len3 {A:Nat} (hA:A<M) (h:wd A 3≠0):dG A=192+dG (wd A 3).toNat:=by
  have e:=pO A hA
  have a0:=bG A 0;have a1:=bG A 1;have a2:=bG A 2
  unfold Word at a0 a1 a2
  refine len_word A 3 (wd A 3) (bG A 3) h (wd A 0+18446744073709551616*wd A 1+340282366920938463463374607431768211456*wd A 2).toNat ?_ ?_
  · rw [show (2:Nat)^(64*3)=6277101735386680763835789423207666416102355444464034512896 from rfl];omega
  · rw [show (2:Int)^(64*3)=6277101735386680763835789423207666416102355444464034512896 from rfl];omega
theorem len2 {A:Nat} (hA:A<M) (h3:wd A 3=0) (h:wd A 2≠0):dG A=128+dG (wd A 2).toNat:=by
  have e:=pO A hA
  have a0:=bG A 0;have a1:=bG A 1
  unfold Word at a0 a1
  refine len_word A 2 (wd A 2) (bG A 2) h (wd A 0+18446744073709551616*wd A 1).toNat ?_ ?_
  · rw [show (2:Nat)^(64*2)=340282366920938463463374607431768211456 from rfl];omega
  · rw [show (2:Int)^(64*2)=340282366920938463463374607431768211456 from rfl];omega
theorem len1 {A:Nat} (hA:A<M) (h3:wd A 3=0) (h2:wd A 2=0) (h:wd A 1≠0):dG A=64+dG (wd A 1).toNat:=by
  have e:=pO A hA
  have a0:=bG A 0
  unfold Word at a0
  refine len_word A 1 (wd A 1) (bG A 1) h (wd A 0).toNat ?_ ?_
  · rw [show (2:Nat)^(64*1)=18446744073709551616 from rfl];omega
  · rw [show (2:Int)^(64*1)=18446744073709551616 from rfl];omega
theorem len0 {A:Nat} (hA:A<M) (h3:wd A 3=0) (h2:wd A 2=0) (h1:wd A 1=0):dG A=dG (wd A 0).toNat:=by
  have e:=pO A hA
  congr 1;have:=mO A 0;omega
theorem iJ (A:Nat) (hA:A<M):dG A≤256:=zH (by rw [← M_pow];exact hA)
set_option maxHeartbeats 1000000 in
theorem len_any (A : Nat) (w : World) (hA : A < M) :
    Calls Tryz.prog 174 #[U A] w fun e w'=>e=.returned (.int .i64 (dG A))∧Below w.heap.size w w':=by
  obtain ⟨n,en⟩:∃ n,n=dG A:=⟨_,rfl⟩
  have hn:n≤256:=by rw [en];exact iJ A hA
  rw [← en]
  by_cases z3:wd A 3=0
  · by_cases z2 : wd A 2 = 0
    · by_cases z1 : wd A 1 = 0
      · by_cases z0 : wd A 0 = 0
        · have en0 : n = 0 := by rw [en, len0 hA z3 z2 z1, z0]; rfl
          have t3:(wd A 3 != 0)=false:=by rw [z3];rfl
          have t2:(wd A 2 != 0)=false:=by rw [z2];rfl
          have t1:(wd A 1 != 0)=false:=by rw [z1];rfl
          have t0:(wd A 0 != 0)=false:=by rw [z0];rfl
          have EN:=Lib.hid en0
          clear z0 z1 z2 z3 en en0 hn
          go_enter Tryz.func174,Tryz.ntmps174
          go_wp2
          refine wp_loop_rounds 5 ?_
          repeat (rw [rounds_succ];go_wp2)
          go_ret
          refine ⟨by rw [EN.out];rfl,?_⟩
          (exact bt)
        · have en0 : n = 0 + dG (wd A 0).toNat := by rw [en, len0 hA z3 z2 z1]; omega
          have t3:(wd A 3 != 0)=false:=by rw [z3];rfl
          have t2:(wd A 2 != 0)=false:=by rw [z2];rfl
          have t1:(wd A 1 != 0)=false:=by rw [z1];rfl
          have t0:(wd A 0 != 0)=true:=by simpa using z0
          have lb:=zH (A:=(wd A 0).toNat) (k:=64) (by have:=wd_lt A 0;have:=mO A 0;omega)
          have L:=Lib.hid (fun W=>wZ (wd A 0) W (bG A 0))
          clear z0
          have EN:=Lib.hid en0
          clear en en0 hn
          (try clear z1)
          (try clear z2)
          (try clear z3)
          go_enter Tryz.func174,Tryz.ntmps174
          go_wp2
          refine wp_loop_rounds 5 ?_
          repeat (rw [rounds_succ];go_wp2_with fail)
          refine (L.out _).mono ?_;rintro e w' ⟨rfl,rfl⟩
          go_wp2
          go_ret
          refine ⟨rF ?_,?_⟩
          · have:=EN.out;omega
          · (exact bt)
      · have en0 : n = 64 + dG (wd A 1).toNat := by rw [en, len1 hA z3 z2 z1]
        have t3:(wd A 3 != 0)=false:=by rw [z3];rfl
        have t2:(wd A 2 != 0)=false:=by rw [z2];rfl
        have t1:(wd A 1 != 0)=true:=by simpa using z1
        have lb:=zH (A:=(wd A 1).toNat) (k:=64) (by have:=wd_lt A 1;have:=mO A 1;omega)
        have L:=Lib.hid (fun W=>wZ (wd A 1) W (bG A 1))
        have EN:=Lib.hid en0
        clear en en0 hn
        (try clear z1)
        (try clear z2)
        (try clear z3)
        go_enter Tryz.func174,Tryz.ntmps174
        go_wp2
        refine wp_loop_rounds 5 ?_
        repeat (rw [rounds_succ];go_wp2_with fail)
        refine (L.out _).mono ?_;rintro e w' ⟨rfl,rfl⟩
        go_wp2
        go_ret
        refine ⟨rF ?_,?_⟩
        · have:=EN.out;omega
        · (exact bt)
    · have en0 : n = 128 + dG (wd A 2).toNat := by rw [en, len2 hA z3 z2]
      have t3:(wd A 3 != 0)=false:=by rw [z3];rfl
      have t2:(wd A 2 != 0)=true:=by simpa using z2
      have lb:=zH (A:=(wd A 2).toNat) (k:=64) (by have:=wd_lt A 2;have:=mO A 2;omega)
      have L:=Lib.hid (fun W=>wZ (wd A 2) W (bG A 2))
      have EN:=Lib.hid en0
      clear en en0 hn
      (try clear z1)
      (try clear z2)
      (try clear z3)
      go_enter Tryz.func174,Tryz.ntmps174
      go_wp2
      refine wp_loop_rounds 5 ?_
      repeat (rw [rounds_succ];go_wp2_with fail)
      refine (L.out _).mono ?_;rintro e w' ⟨rfl,rfl⟩
      go_wp2
      go_ret
      refine ⟨rF ?_,?_⟩
      · have:=EN.out;omega
      · (exact bt)
  · have en0 : n = 192 + dG (wd A 3).toNat := by rw [en, len3 hA z3]
    have t3:(wd A 3 != 0)=true:=by simpa using z3
    have lb:=zH (A:=(wd A 3).toNat) (k:=64) (by have:=wd_lt A 3;have:=mO A 3;omega)
    have L:=Lib.hid (fun W=>wZ (wd A 3) W (bG A 3))
    have EN:=Lib.hid en0
    clear en en0 hn
    (try clear z1)
    (try clear z2)
    (try clear z3)
    go_enter Tryz.func174,Tryz.ntmps174
    go_wp2
    refine wp_loop_rounds 5 ?_
    repeat (rw [rounds_succ];go_wp2_with fail)
    refine (L.out _).mono ?_;rintro e w' ⟨rfl,rfl⟩
    go_wp2
    go_ret
    refine ⟨rF ?_,?_⟩
    · have:=EN.out;omega
    · (exact bt)
set_option maxHeartbeats 1000000 in
theorem rfromuint_any (n:Int) (w:World) (hn:Word n) :
    Calls Tryz.prog 75 #[.int .u64 n] w fun e w'=>e=.returned (U n.toNat)∧Below w.heap.size w w':=by
  obtain ⟨n,rfl⟩:=Int.eq_ofNat_of_zero_le hn.1
  have h2:=hn.2
  go_enter Tryz.func75,Tryz.ntmps75
  go_wp2
  go_returns
  refine ⟨ret_U (U_small n (by omega)),?_⟩
  (exact bt)
set_option maxHeartbeats 1000000 in
theorem iI (A:Nat) (w:World) (hA:A<M) :
    Calls Tryz.prog 64 #[U A] w fun e w'=>e=.returned (.bool (decide (A=0)))∧Below w.heap.size w w':=by
  have E:=fun W=>eqlU0 A hA W
  go_enter Tryz.func64,Tryz.ntmps64
  go_wp2
  go_ret
  refine ⟨rfl,?_⟩
  (exact bt)
theorem bit_lt {A m:Nat} (h:A<2^(m+1)) (hb:nJ A m=false):A<2^m:=by
  unfold nJ at hb
  have:=of_decide_eq_false hb
  have h2:A / 2^m<2:=by rw [Nat.div_lt_iff_lt_mul (Nat.pow_pos (by decide))];rw [Nat.pow_succ] at h;omega
  have h3:A / 2^m=0:=by generalize A / 2^m=y at *;omega
  exact Nat.lt_of_div_eq_zero (Nat.pow_pos (by decide)) h3
theorem bit_ge {A m:Nat} (hb:nJ A m=true):2^m≤A:=by
  unfold nJ at hb
  have h1:=of_decide_eq_true hb
  refine Nat.le_of_not_lt (fun h=>?_)
  rw [Nat.div_eq_of_lt h] at h1
  omega
set_option maxHeartbeats 1000000 in
theorem rlen_any (A : Nat) (w : World) (hA : A < M) :
    Calls Tryz.prog 87 #[U A] w fun e w'=>e=.returned (.int .i64 (dG A))∧Below w.heap.size w w':=by
  obtain ⟨n,en⟩:∃ n,n=dG A:=⟨_,rfl⟩
  rw [← en]
  have EN:=Lib.hid en
  clear en
  go_enter Tryz.func87,Tryz.ntmps87
  go_wp2
  go_loopg [3] 256 (fun k p wr=>k≤256∧p=.int .i64 (k-1)∧Hid (A<2^k)∧Own wr w.heap.size (cU A)∧Below w.heap.size w wr)
  case atStart=>exact ⟨by omega,rfl,Lib.hid (by rw [← M_pow];exact hA),Own.new _,(Below.refl _ _).alloc (Nat.le_refl _) _⟩
  case round =>
    obtain ⟨hk,rfl,hlt,O,hB⟩:=hrel
    by_cases hk0:gk=0
    · subst hk0
      go_wp2
      go_ret
      refine ⟨rF ?_,hB⟩
      have:=hlt.out
      rw [EN.out,show A=0 by simpa using this];rfl
    · obtain ⟨m, rfl⟩ : ∃ m, gk = m + 1 := ⟨gk - 1, by omega⟩
      have eg:((m+1:Nat):Int)-1=m:=by omega
      rw [eg]
      clear eg
      have c0:=O.cell
      have m256:m<256:=by omega
      cases hb:nJ A m with
      | true =>
        have L:=Lib.hid (fun W=>rW A m W m256)
        rw [hb] at L
        have HB:=Lib.hid hb
        clear hb
        go_wp2_with fail
        refine (L.out _).mono ?_;rintro e w1 ⟨rfl,hb1⟩
        go_wp2
        go_ret
        refine ⟨rF ?_,hB.trans (hb1.mono hB.size)⟩
        rw [EN.out,lenN_of (bit_ge HB.out) hlt.out];omega
      | false =>
        have L:=Lib.hid (fun W=>rW A m W m256)
        rw [hb] at L
        have HB:=Lib.hid hb
        clear hb
        go_wp2_with fail
        refine (L.out _).mono ?_;rintro e w1 ⟨rfl,hb1⟩
        go_wp2
        go_roundg m
        case rel=>exact ⟨by omega,rfl,Lib.hid (bit_lt hlt.out HB.out),O.below hb1,hB.trans (hb1.mono hB.size)⟩
        case measure=>omega
theorem rC (x:Nat):x%M<M:=Nat.mod_lt _ vK
theorem lF (n:Nat) (w:World) (hn:n<18446744073709551616):Calls Tryz.prog 126 #[.int .u64 n] w fun e w'=>e=.returned (U n)∧Below w.heap.size w w':=by
  have h:=fromuint_any n w ⟨by omega,by omega⟩
  exact h
theorem iE (n:Nat) (w:World) (hn:n<18446744073709551616):Calls Tryz.prog 75 #[.int .u64 n] w fun e w'=>e=.returned (U n)∧Below w.heap.size w w':=by
  have h:=rfromuint_any n w ⟨by omega,by omega⟩
  exact h
def aQ (a m:Nat):Nat:=if m=0 then 0 else a%m
theorem pR {a m:Nat} (h:a<M):aQ a m<M:=by
  unfold aQ;split
  · exact vK
  · exact Nat.lt_of_le_of_lt (Nat.mod_le _ _) h
theorem vX {a b:Nat}:fJ a b<0↔a<b:=by
  unfold fJ;split
  · simp;assumption
  · split<;>simp<;>omega
theorem red_lt {a m:Nat} (h:decide (fJ a m<0)=true):a=aQ a m:=by
  have h1:=vX.1 (of_decide_eq_true h)
  unfold aQ;rw [if_neg (by omega),Nat.mod_eq_of_lt h1]
theorem red_div0 (a m:Nat):iV 0 a m=aQ a m:=by
  unfold aQ iV
  by_cases h0:m=0
  · rw [if_pos (by omega),if_pos h0]
  · rw [if_neg (by omega),if_neg h0,Nat.zero_mul,Nat.zero_add]
theorem red_div {a m:Nat} (_h:decide (fJ a m<0)=false):iV 0 a m=aQ a m:=by
  unfold aQ iV
  by_cases h0:m=0
  · rw [if_pos (by omega),if_pos h0]
  · rw [if_neg (by omega),if_neg h0,Nat.zero_mul,Nat.zero_add]
def bC (a b m:Nat):Nat:=if m=0 then 0 else (a+b)%m
def bV (a b m:Nat):Nat:=if m=0 then 0 else (a*b)%m
def bK (a e m:Nat):Nat:=if m=0 then 0 else a^e%m
theorem modz_lt {m:Nat} (x:Nat) (h:m<M):(if m=0 then 0 else x%m)<M:=by
  split
  · exact vK
  · exact Nat.lt_trans (Nat.mod_lt _ (by omega)) h
theorem wE (a b:Nat) {m:Nat} (h:m<M):bV a b m<M:=modz_lt _ h
theorem vZ (a b:Nat) {m:Nat} (h:m<M):bK a b m<M:=modz_lt _ h
theorem jH {a m:Nat} (h:decide (m=0)=false):aQ a m=a%m∧0<m∧a%m<m:=by
  have h0:m≠0:=of_decide_eq_false h
  unfold aQ;rw [if_neg h0]
  exact ⟨rfl,by omega,Nat.mod_lt _ (by omega)⟩
theorem mulm_0 {a b m:Nat} (h:decide (m=0)=true):0=bV a b m:=by unfold bV;rw [if_pos (of_decide_eq_true h)]
theorem mulm_0' {a b m:Nat} (h:decide (m=0)=true):m=bV a b m:=by rw [← mulm_0 h];exact of_decide_eq_true h
theorem expm_0 {a b m:Nat} (h:decide (m=0)=true):0=bK a b m:=by unfold bK;rw [if_pos (of_decide_eq_true h)]
theorem expm_0' {a b m:Nat} (h:decide (m=0)=true):m=bK a b m:=by rw [← expm_0 h];exact of_decide_eq_true h
theorem mulm_1 {a b m:Nat} (h1:decide (m=0)=false):iV (aQ (a*b / M) m) (a*b%M) m=bV a b m:=by
  obtain ⟨e1,p,l1⟩:=jH (a:=a*b / M) h1
  unfold iV bV
  rw [e1,if_neg (by omega),if_neg (by omega),Nat.add_mod,Nat.mul_mod,Nat.mod_mod,← Nat.mul_mod,← Nat.add_mod,Nat.mul_comm (a*b / M),Nat.div_add_mod]
theorem mulm_2 {a b m:Nat} (hm:m<M) (h1:decide (m=0)=false):iV (aQ a m*aQ b m / M) (aQ a m*aQ b m%M) m=bV a b m:=by
  obtain ⟨e1,p,l1⟩:=jH (a:=a) h1
  obtain ⟨e2,_,l2⟩:=jH (a:=b) h1
  rw [e1,e2]
  have hlt:a%m*(b%m) / M<m:=by
    rw [Nat.div_lt_iff_lt_mul vK]
    have:a%m*(b%m)≤(m-1)*m:=Nat.mul_le_mul (by omega) (by omega)
    have h3:(m-1)*m<m*m:=Nat.mul_lt_mul_of_pos_right (by omega) p
    have h4:m*m≤m*M:=Nat.mul_le_mul_left _ (by omega)
    omega
  unfold iV bV
  rw [if_neg (by omega),if_neg (by omega),Nat.mul_comm (a%m*(b%m) / M),Nat.div_add_mod,← Nat.mul_mod]
def c8 (f:Nat→Int):Array Value:= #[.int .u64 (f 0),.int .u64 (f 1),.int .u64 (f 2),.int .u64 (f 3),.int .u64 (f 4),.int .u64 (f 5),.int .u64 (f 6),.int .u64 (f 7)]
def qR (f:Nat→Int) (k:Nat) (x:Int):Nat→Int:=fun j=>if j=k then x else f j
theorem lt8 {k:Nat} (h:k<8):k=0∨k=1∨k=2∨k=3∨k=4∨k=5∨k=6∨k=7:=by omega
theorem c8_get (f:Nat→Int) (k:Nat) (h:k<8):(c8 f)[k]? = some (.int .u64 (f k)):=by
  rcases lt8 h with rfl | rfl | rfl | rfl | rfl | rfl | rfl | rfl<;>rfl
theorem c8_set (f:Nat→Int) (k:Nat) (x:Int) (h:k<8):(c8 f).setIfInBounds k (.int .u64 x)=c8 (qR f k x):=by
  rcases lt8 h with rfl | rfl | rfl | rfl | rfl | rfl | rfl | rfl<;>simp [c8,qR]
def S8 (f:Nat→Int):Int:=f 0+18446744073709551616*f 1+340282366920938463463374607431768211456*f 2+6277101735386680763835789423207666416102355444464034512896*f 3+115792089237316195423570985008687907853269984665640564039457584007913129639936*f 4+2135987035920910082395021706169552114602704522356652769947041607822219725780640550022962086936576*f 5+39402006196394479212279040100143613805079739270465446667948293404245721771497210611414266254884915640806627990306816*f 6+726838724295606890549323807888004534353641360687318060281490199180639288113397923326191050713763565560762521606266177933534601628614656*f 7
def pw (k:Nat):Int:=18446744073709551616^k
theorem pw_vals:pw 0=1∧pw 1=18446744073709551616∧pw 2=340282366920938463463374607431768211456∧pw 3=6277101735386680763835789423207666416102355444464034512896∧pw 4=115792089237316195423570985008687907853269984665640564039457584007913129639936∧pw 5=2135987035920910082395021706169552114602704522356652769947041607822219725780640550022962086936576∧pw 6=39402006196394479212279040100143613805079739270465446667948293404245721771497210611414266254884915640806627990306816∧pw 7=726838724295606890549323807888004534353641360687318060281490199180639288113397923326191050713763565560762521606266177933534601628614656:=by
  decide +kernel
def mG (A B i:Nat):Nat→Int
  | 0=>0
  | j+1=>mG A B i j+wd A i*wd B j*pw (i+j)
def mH (A B:Nat):Nat→Int
  | 0=>0
  | i+1=>mH A B i+mG A B i 4
structure MulO (A B i:Nat) (f:Nat→Int):Prop where
  word:∀ k,Word (f k)
  zero:∀ k,i+4≤k→f k=0
  sum:S8 f=mH A B i
structure MulI (A B i j:Nat) (f:Nat→Int) (c:Int):Prop where
  car:Word c
  word:∀ k,Word (f k)
  zero:∀ k,i+4≤k→f k=0
  sum:S8 f+c*pw (i+j)=mH A B i+mG A B i j
theorem mulO_zero (A B:Nat):MulO A B 0 (fun _=>0):=⟨fun _=>rZ,fun _ _=>rfl,by simp [S8,mH]⟩
theorem mulO_begin {A B i:Nat} {f:Nat→Int} (h:MulO A B i f):MulI A B i 0 f 0:=⟨rZ,h.word,h.zero,by rw [h.sum];simp [mG]⟩
theorem mulI_end {A B i:Nat} {f:Nat→Int} {c:Int} (hi:i<4) (h:MulI A B i 4 f c):MulO A B (i+1) (qR f (i+4) c):=by
  refine ⟨fun k=>?_,fun k hk=>?_,?_⟩
  · unfold qR; split
    · exact h.car
    · exact h.word k
  · unfold qR;rw [if_neg (by omega)];exact h.zero k (by omega)
  · have hz := h.zero (i + 4) (by omega)
    have hs:=h.sum
    show _=mH A B i+mG A B i 4
    rw [← hs]
    obtain ⟨p0,p1,p2,p3,p4,p5,p6,p7⟩:=pw_vals
    rcases (by omega:i=0∨i=1∨i=2∨i=3) with rfl | rfl | rfl | rfl<;>simp only [S8,qR,Nat.reduceAdd,Nat.reduceEqDiff,if_true,if_false,p4,p5,p6,p7] at hz ⊢ <;> rw [hz]<;>omega
theorem mul_bound {x y:Int} (hx:Word x) (hy:Word y):0≤x*y∧x*y≤340282366920938463426481119284349108225:=by
  unfold Word at *
  refine ⟨Int.mul_nonneg hx.1 hy.1,?_⟩
  have h1:x*y≤18446744073709551615*y:=Int.mul_le_mul_of_nonneg_right (by omega) hy.1
  omega
theorem u64_wrap (n:Int):IntKind.u64.wrap n=n%18446744073709551616:=IntKind.wrap_u64 n
theorem mul_step {x y u c:Int} (hx:Word x) (hy:Word y) (hu:Word u) (hc:Word c) :
    cZ (cZ (bZ x y) u 0) c 0+18446744073709551616*(IntKind.u64.wrap (IntKind.u64.wrap (mJ x y+dJ (bZ x y) u 0)+dJ (cZ (bZ x y) u 0) c 0))=x*y+u+c ∧
      Word (IntKind.u64.wrap (IntKind.u64.wrap (mJ x y+dJ (bZ x y) u 0)+dJ (cZ (bZ x y) u 0) c 0)):=by
  have hb:=mul_bound hx hy
  have e1:=mul_eq x y
  have w1:=yO x y
  have e2:=add_eq w1 hu jD
  have w2:=gQ (bZ x y) u 0
  have b2:=jO (bZ x y) u 0
  have e3:=add_eq w2 hc jD
  have w3:=gQ (cZ (bZ x y) u 0) c 0
  have b3:=jO (cZ (bZ x y) u 0) c 0
  rw [u64_wrap,u64_wrap]
  generalize dJ (cZ (bZ x y) u 0) c 0=q3 at *
  generalize cZ (cZ (bZ x y) u 0) c 0=r3 at *
  generalize dJ (bZ x y) u 0=q2 at *
  generalize cZ (bZ x y) u 0=r2 at *
  generalize bZ x y=r1 at *
  generalize mJ x y=q1 at *
  generalize x*y=p at *
  unfold Word xZ at *
  omega
theorem addLo_comm (x y c:Int):cZ x y c=cZ y x c:=by unfold cZ;rw [Int.add_comm x y]
theorem addHi_comm (x y c:Int):dJ x y c=dJ y x c:=by unfold dJ;rw [Int.add_comm x y]
theorem rmul_step {x y u c:Int} (hx:Word x) (hy:Word y) (hu:Word u) (hc:Word c) :
    cZ (cZ u (bZ x y) 0) c 0+18446744073709551616*(IntKind.u64.wrap (IntKind.u64.wrap (mJ x y+dJ u (bZ x y) 0)+dJ (cZ u (bZ x y) 0) c 0))=x*y+u+c ∧
      Word (IntKind.u64.wrap (IntKind.u64.wrap (mJ x y+dJ u (bZ x y) 0)+dJ (cZ u (bZ x y) 0) c 0)):=by
  rw [addLo_comm u (bZ x y),addHi_comm u (bZ x y)]
  exact mul_step hx hy hu hc
theorem mulI_next {A B i j:Nat} {f:Nat→Int} {c w c':Int} (hi:i<4) (hj:j<4) (h:MulI A B i j f c) (hw:Word w) (hc':Word c') (he:w+18446744073709551616*c'=wd A i*wd B j+f (i+j)+c) :
    MulI A B i (j+1) (qR f (i+j) w) c':=by
  refine ⟨hc',fun k=>?_,fun k hk=>?_,?_⟩
  · unfold qR; split
    · exact hw
    · exact h.word k
  · unfold qR;rw [if_neg (by omega)];exact h.zero k hk
  · have hs := h.sum
    show _=mH A B i+(mG A B i j+wd A i*wd B j*pw (i+j))
    generalize wd A i*wd B j=p at *
    rw [← Int.add_assoc,← hs]
    obtain ⟨p0,p1,p2,p3,p4,p5,p6,p7⟩:=pw_vals
    clear hs
    rcases (by omega:i=0∨i=1∨i=2∨i=3) with rfl | rfl | rfl | rfl<;>rcases (by omega:j=0∨j=1∨j=2∨j=3) with rfl | rfl | rfl | rfl <;>
      simp only [S8,qR,Nat.reduceAdd,Nat.reduceEqDiff,if_true,if_false,p0,p1,p2,p3,p4,p5,p6,p7] at he ⊢ <;> omega
theorem mul_four (x b0 b1 b2 b3:Int):x*(b0+18446744073709551616*b1+340282366920938463463374607431768211456*b2+6277101735386680763835789423207666416102355444464034512896*b3)=x*b0+18446744073709551616*(x*b1)+340282366920938463463374607431768211456*(x*b2)+6277101735386680763835789423207666416102355444464034512896*(x*b3):=by
  rw [Int.mul_add,Int.mul_add,Int.mul_add,Int.mul_left_comm x _ b1,Int.mul_left_comm x _ b2,Int.mul_left_comm x _ b3]
theorem mH_four {A B:Nat} (hA:A<M) (hB:B<M):mH A B 4=((A*B:Nat):Int):=by
  have ea:=pO A hA;have eb:=pO B hB
  obtain ⟨p0,p1,p2,p3,p4,p5,p6,p7⟩:=pw_vals
  have e:((A*B:Nat):Int)=(wd A 0+18446744073709551616*wd A 1+340282366920938463463374607431768211456*wd A 2+6277101735386680763835789423207666416102355444464034512896*wd A 3)*(B:Int):=by
    rw [← ea,Int.natCast_mul]
  rw [e,Int.add_mul,Int.add_mul,Int.add_mul,Int.mul_assoc,Int.mul_assoc,Int.mul_assoc,eb]
  simp only [mul_four]
  simp only [mH,mG,Nat.reduceAdd,Nat.zero_add,Nat.add_zero,p0,p1,p2,p3,p4,p5,p6]
  omega
theorem mul_end {A B:Nat} {f:Nat→Int} (hA:A<M) (hB:B<M) (h:MulO A B 4 f) :
    Ending.returned (.tuple #[.agg #[.int .u64 (f 4),.int .u64 (f 5),.int .u64 (f 6),.int .u64 (f 7)],.agg #[.int .u64 (f 0),.int .u64 (f 1),.int .u64 (f 2),.int .u64 (f 3)]])=.returned (.tuple #[U (A*B / M),U (A*B%M)]):=by
  have hs:=h.sum
  rw [mH_four hA hB] at hs
  have w0:=h.word 0;have w1:=h.word 1;have w2:=h.word 2;have w3:=h.word 3;have w4:=h.word 4;have w5:=h.word 5;have w6:=h.word 6;have w7:=h.word 7
  have l1:=ofW_sum w0 w1 w2 w3
  have l2:=ofW_sum w4 w5 w6 w7
  have t1:=ofW_lt w0 w1 w2 w3
  have key:A*B=ofW (f 4) (f 5) (f 6) (f 7)*M+ofW (f 0) (f 1) (f 2) (f 3):=by
    unfold S8 at hs
    rw [mQ] at *
    omega
  have e1:A*B / M=ofW (f 4) (f 5) (f 6) (f 7):=by
    rw [key,Nat.mul_comm,Nat.mul_add_div vK,Nat.div_eq_of_lt t1,Nat.add_zero]
  have e2:A*B%M=ofW (f 0) (f 1) (f 2) (f 3):=by
    rw [key,Nat.mul_comm,Nat.mul_add_mod,Nat.mod_eq_of_lt t1]
  rw [e1,e2,sG _ w4 w5 w6 w7 l2,sG _ w0 w1 w2 w3 l1]
theorem mulhi_lt {A B:Nat} (hA:A<M) (hB:B<M):A*B / M<M:=by
  rw [Nat.div_lt_iff_lt_mul vK]
  exact Nat.mul_lt_mul_of_lt_of_lt hA hB
theorem dX (x y:Nat) (h:x+y<9223372036854775808):IntKind.i64.wrap ((x:Int)+(y:Int))=((x+y:Nat):Int):=by
  rw [IntWalk.i64_in _ (by omega)];omega
def shlW (x:Int) (k:Nat):Int:=IntKind.u64.wrap (x*2^min k 64)
def shrW (x:Int) (k:Nat):Int:=x.fdiv (2^min k 64)
theorem run_shl {P:Program} {t:TypeId} {yk:IntKind} (x:Int) (k:Nat) (w:World):(binOp .shl t (.int .u64 x) (.int yk (k:Int))).run P w=.ok (.int .u64 (shlW x k)) w:=by
  simp only [binOp,Op.shift,if_neg (by omega: ¬ (k:Int)<0),Int.toNat_natCast]
  rfl
theorem run_shr {P:Program} {t:TypeId} {yk:IntKind} (x:Int) (k:Nat) (w:World):(binOp .shr t (.int .u64 x) (.int yk (k:Int))).run P w=.ok (.int .u64 (shrW x k)) w:=by
  simp only [binOp,Op.shift,if_neg (by omega: ¬ (k:Int)<0),Int.toNat_natCast]
  rfl
theorem run_quo_nat {P:Program} {t:TypeId} (n d q:Nat) (hd:0<d) (hn:n<9223372036854775808) (hq:n / d=q) (w:World):(binOp .quo t (.int .i64 (n:Int)) (.int .i64 (d:Int))).run P w=.ok (.int .i64 (q:Int)) w:=by
  have e:Int.tdiv (n:Int) (d:Int)=(q:Int):=by rw [Int.tdiv_eq_ediv_of_nonneg (by omega),← hq];simp
  have h1:q≤n:=by rw [← hq];exact Nat.div_le_self _ _
  simp only [binOp,Op.intDiv,ne_eq,not_true_eq_false,if_false,if_neg (by omega: ¬ (d:Int)=0),e,IntWalk.i64_in (q:Int) (by omega)]
  rfl
theorem run_rem_nat {P:Program} {t:TypeId} (n d q:Nat) (hd:0<d) (hq:n%d=q) (w:World):(binOp .rem t (.int .i64 (n:Int)) (.int .i64 (d:Int))).run P w=.ok (.int .i64 (q:Int)) w:=by
  have e:Int.tmod (n:Int) (d:Int)=(q:Int):=by rw [Int.tmod_eq_emod_of_nonneg (by omega),← hq];simp
  simp only [binOp,Op.intDiv,ne_eq,not_true_eq_false,if_false,if_neg (by omega: ¬ (d:Int)=0),e]
  rfl
theorem zY (x y:Nat) (h:y≤x) (hx:x<9223372036854775808):IntKind.i64.wrap ((x:Int)-(y:Int))=((x-y:Nat):Int):=by
  rw [IntWalk.i64_in _ (by omega)];omega
def shrZ (a:Nat) (n:Int):Nat:=if n<0 then a else a / 2^n.toNat
theorem shrN_big {a:Nat} (ha:a<M) {n:Nat} (h:256≤n):a / 2^n=0:=by
  apply Nat.div_eq_of_lt
  have:(2:Nat)^256≤2^n:=Nat.pow_le_pow_right (by decide) h
  rw [show M=2^256 by rw [mQ]] at ha
  omega
theorem bits_or_comm (x y:Int):bits .or .u64 x y=bits .or .u64 y x:=by
  simp only [bits,BitVec.or_comm]
theorem setlow_row (q g m : Nat) (hg : g < 4) (hm : m < 64) (h : q < 2 ^ (64 * g + m)) : (cU q).setIfInBounds g (.int .u64 (bits .or .u64 (wd q g) (2 ^ m))) = cU (q + 2 ^ (64 * g + m)) := by
  have hl:∀ j,j<g→wd (q+2^(64*g+m)) j=wd q j:=fun j hj=>setbit_lo q _ j (by omega)
  have hpos:0<2^(64*g):=Nat.pow_pos (by decide)
  have hlt:q / 2^(64*g)<2^m:=by
    rw [Nat.div_lt_iff_lt_mul hpos,← Nat.pow_add,Nat.add_comm m];exact h
  have h64:(2:Nat)^m<18446744073709551616:=by
    have:(2:Nat)^m<2^64:=Nat.pow_lt_pow_right (by decide) hm
    omega
  have hW:∀ j,(18446744073709551616:Nat)^j=2^(64*j):=fun j=>by rw [Nat.pow_mul]
  have hz:∀ j,g<j→wd (q+2^(64*g+m)) j=wd q j:=by
    intro j hj
    have hb:(2:Nat)^(64*g+m)+2^(64*g+m)≤2^(64*j):=by
      rw [← Nat.two_mul,← Nat.pow_succ']
      exact Nat.pow_le_pow_right (by decide) (by omega)
    unfold wd
    rw [hW,Nat.div_eq_of_lt (by omega),Nat.div_eq_of_lt (by omega)]
  have hg':bits .or .u64 (wd q g) (2^m)=wd (q+2^(64*g+m)) g:=by
    have e1:wd q g=((q / 2^(64*g):Nat):Int):=by
      unfold wd;rw [hW,Nat.mod_eq_of_lt (by omega)]
    have e2:wd (q+2^(64*g+m)) g=((q / 2^(64*g)+2^m:Nat):Int):=by
      unfold wd
      rw [hW,Nat.pow_add,Nat.add_mul_div_left _ _ hpos,Nat.mod_eq_of_lt]
      have:(2:Nat)^m+2^m≤2^64:=by
        rw [← Nat.two_mul,← Nat.pow_succ'];exact Nat.pow_le_pow_right (by decide) (by omega)
      omega
    rw [e1,e2,bits_or_comm]
    clear e1 e2 hl hz
    generalize q / 2^(64*g)=d at *
    have ec:((2:Int)^m)=((2^m:Nat):Int):=by simp
    have h1:=uJ 1 (d:Int) m (by omega) (by omega) (by rw [ec];omega) (by
      have:(2:Nat)^m+2^m≤2^64:=by
        rw [← Nat.two_mul,← Nat.pow_succ'];exact Nat.pow_le_pow_right (by decide) (by omega)
      rw [ec];omega)
    rw [Int.one_mul] at h1
    rw [h1,ec];omega
  rw [hg']
  generalize q+2^(64*g+m)=q' at *
  rcases (by omega:g=0∨g=1∨g=2∨g=3) with rfl | rfl | rfl | rfl
  · show #[_,_,_,_]=_;rw [cU,hz 1 (by omega),hz 2 (by omega),hz 3 (by omega)]
  · show #[_,_,_,_]=_;rw [cU,hl 0 (by omega),hz 2 (by omega),hz 3 (by omega)]
  · show #[_,_,_,_]=_;rw [cU,hl 0 (by omega),hl 1 (by omega),hz 3 (by omega)]
  · show #[_,_,_,_]=_;rw [cU,hl 0 (by omega),hl 1 (by omega),hl 2 (by omega)]
theorem low_next (x i:Nat):x%2^(i+1)=x%2^i+(if x / 2^i%2=1 then 2^i else 0):=by
  rw [Nat.mod_pow_succ]
  rcases (by omega:x / 2^i%2=0∨x / 2^i%2=1) with h | h<;>simp [h]
theorem shr_bit (a n i:Nat):a / 2^(i+n)%2=a / 2^n / 2^i%2:=by rw [Nat.div_div_eq_div_mul,← Nat.pow_add,Nat.add_comm n i]
theorem shr_all {a n i:Nat} (ha:a<M) (h:256≤i+n):a / 2^n%2^i=a / 2^n:=by
  apply Nat.mod_eq_of_lt
  rw [Nat.div_lt_iff_lt_mul (Nat.pow_pos (by decide)),← Nat.pow_add]
  have:(2:Nat)^256≤2^(i+n):=Nat.pow_le_pow_right (by decide) h
  rw [show M=2^256 by rw [mQ]] at ha
  omega
def c4 (f:Nat→Int):Array Value:= #[.int .u64 (f 0),.int .u64 (f 1),.int .u64 (f 2),.int .u64 (f 3)]
theorem div_lenN (e:Nat):e / 2^dG e=0:=by
  apply Nat.div_eq_of_lt
  unfold dG
  split
  · rename_i h;rw [h];exact Nat.pow_pos (by decide)
  · exact Nat.lt_log2_self
theorem exp_step {a p m x:Nat} (hp:p=a^x%m) (hm:0<m):bV p p m=a^(2*x)%m:=by
  unfold bV
  rw [if_neg (by omega),hp,← Nat.mul_mod,Nat.two_mul,Nat.pow_add]
theorem exp_step1 {a p m x:Nat} (hp:p=a^x%m) (hm:0<m):bV (bV p p m) a m=a^(2*x+1)%m:=by
  rw [exp_step hp hm]
  unfold bV
  rw [if_neg (by omega),Nat.mod_mul_mod,Nat.pow_succ]
theorem half_even {e k:Nat} (h0:0<k) (h:nJ e (k-1)=false):2*(e / 2^k)=e / 2^(k-1):=by
  unfold nJ at h
  have h:=of_decide_eq_false h
  have e1:2^k=2^(k-1)*2:=by rw [← Nat.pow_succ];congr 1;omega
  rw [e1,← Nat.div_div_eq_div_mul]
  omega
theorem half_odd {e k:Nat} (h0:0<k) (h:nJ e (k-1)=true):2*(e / 2^k)+1=e / 2^(k-1):=by
  unfold nJ at h
  have h:=of_decide_eq_true h
  have e1:2^k=2^(k-1)*2:=by rw [← Nat.pow_succ];congr 1;omega
  rw [e1,← Nat.div_div_eq_div_mul]
  omega
theorem exp_start {a e m:Nat} (h:decide (m=0)=false):aQ 1 m=a^(e / 2^dG e)%m:=by
  rw [(jH h).1,div_lenN,Nat.pow_zero]
theorem exp_lt {a x m p:Nat} (hm:m<M) (h:decide (m=0)=false) (hp:p=a^x%m):p<M:=by
  rw [hp];exact Nat.lt_trans (Nat.mod_lt _ (jH (a:=0) h).2.1) hm
theorem exp_end {a e m p k:Nat} (h:decide (m=0)=false) (hk:k=0) (hp:p=a^(e / 2^k)%m):p=bK a e m:=by
  unfold bK
  rw [if_neg (of_decide_eq_false h),hp,hk,Nat.pow_zero,Nat.div_one]
theorem rbit_at (A i:Nat) (x:Int) (hx:x=(i:Int)) (w:World) (hi:i<256) :
    Calls Tryz.prog 121 #[U A,.int .i64 x] w fun e w'=>e=.returned (.bool (nJ A i))∧Below w.heap.size w w':=by
  subst hx;exact rW A i w hi
theorem expbit (e i:Nat):(bits .and .u64 (shrW (wd e (i / 64)) (i%64)) 1==1)=nJ e i:=by
  rw [← bit_wd e (i / 64) i rfl]
  unfold shrW
  rw [Nat.min_eq_left (by omega),Int.fdiv_eq_ediv_of_nonneg _ (by have:(0:Nat)<2^(i%64):=Nat.pow_pos (by decide);have e:((2:Int)^(i%64))=((2^(i%64):Nat):Int):=(by simp);omega)]
theorem wrap_down {k:Nat} (h:0<k) (h2:k<9223372036854775808):IntKind.i64.wrap ((k:Int)-1-1)=((k-1:Nat):Int)-1:=by
  rw [IntWalk.i64_in _ (by omega)];omega
theorem wrap_pred {k:Nat} (h2:k<9223372036854775808):IntKind.i64.wrap ((k:Int)-1)=(k:Int)-1:=by
  rw [IntWalk.i64_in _ (by omega)]
def pP:Nat:=115792089237316195423570985008687907853269984665640564039457584007913129603823
def qP:Nat:=57896044618658097711785492504343953926634992332820282019728792003956564801911
theorem oV:pP<M:=by rw [mQ];unfold pP;decide
theorem sW:qP<M:=by rw [mQ];unfold qP;decide
theorem pF:1<pP:=by unfold pP;decide
theorem qP_pos:1<qP:=by unfold qP;decide
theorem pJ (a e:Nat):bK a e pP=a^e%pP:=by unfold bK;rw [if_neg (by have:=pF;omega)]
theorem mulm_p (a b:Nat):bV a b pP=a*b%pP:=by unfold bV;rw [if_neg (by have:=pF;omega)]
def powm (m:Nat):Nat→Nat→Nat→Nat
  | 0,_,_=>1%m
  | f+1,a,e=>if e=0 then 1%m else if e%2=1 then a*powm m f (a*a%m) (e / 2)%m else powm m f (a*a%m) (e / 2)
theorem powm_eq (m : Nat) : ∀ f a e, e < 2 ^ f → powm m f a e = a ^ e % m := by
  intro f
  induction f with
  | zero => intro a e h; have : e = 0 := by simpa using h
            subst this;rfl
  | succ f ih =>
    intro a e h
    have hlt:e / 2<2^f:=by rw [Nat.div_lt_iff_lt_mul (by decide)];rw [Nat.pow_succ] at h;exact h
    have hsq:(a*a%m)^(e / 2)%m=a^(2*(e / 2))%m:=by rw [← Nat.pow_mod,← Nat.pow_two,← Nat.pow_mul]
    unfold powm
    split
    · rename_i h0; rw [h0]
      rfl
    · split
      · rw [ih _ _ hlt, hsq, Nat.mul_mod_mod, Nat.mul_comm, ← Nat.pow_succ]
        congr 2;omega
      · rw [ih _ _ hlt, hsq]
        congr 2;omega
theorem four_q:4^qP%pP=1:=by
  rw [← powm_eq pP 256 4 qP (by unfold qP;decide +kernel)]
  decide +kernel
def mW (a:Nat):Bool:=decide (a≠0∧a<pP∧a^qP%pP=1)
theorem memB_zero:mW 0=false:=by unfold mW;rw [decide_eq_false_iff_not];exact fun h=>h.1 rfl
theorem pow_red (x:Nat):4^(x%qP)%pP=4^x%pP:=by
  have h1:4^x%pP=4^(qP*(x / qP)+x%qP)%pP:=by rw [Nat.div_add_mod]
  rw [h1,Nat.pow_add,Nat.pow_mul,Nat.mul_mod,Nat.pow_mod (4^qP),four_q,Nat.one_pow,Nat.mod_eq_of_lt pF,Nat.one_mul,Nat.mod_mod]
theorem pow_ne (x:Nat):4^x%pP≠0:=by
  intro h
  have h1:(4^x)^qP%pP=1:=by rw [← Nat.pow_mul,Nat.mul_comm,Nat.pow_mul,Nat.pow_mod,four_q,Nat.one_pow,Nat.mod_eq_of_lt pF]
  rw [Nat.pow_mod,h,Nat.zero_pow (by have:=qP_pos;omega),Nat.zero_mod] at h1
  exact absurd h1 (by decide)
theorem pow_q (x:Nat):(4^x%pP)^qP%pP=1:=by
  rw [← Nat.pow_mod,← Nat.pow_mul,Nat.mul_comm,Nat.pow_mul,Nat.pow_mod,four_q,Nat.one_pow,Nat.mod_eq_of_lt pF]
theorem memB_pow (x:Nat):mW (4^x%pP)=true:=by
  unfold mW;rw [decide_eq_true_eq]
  exact ⟨pow_ne x,Nat.mod_lt _ (by have:=pF;omega),pow_q x⟩
theorem mem_no1 {a:Nat} (h:decide (a=0)=true):false=mW a:=by rw [of_decide_eq_true h];exact memB_zero.symm
theorem mem_no2 {a:Nat} (h:decide (0≤fJ a pP)=true):false=mW a:=by
  unfold mW;symm;rw [decide_eq_false_iff_not]
  intro hh
  have h1:=vX.2 hh.2.1
  have:=of_decide_eq_true h;omega
theorem mem_no3 {a:Nat} (h:decide (fJ a pP<0)=false):false=mW a:=mem_no2 (decide_eq_true (by have:=of_decide_eq_false h;omega))
theorem mem_yes {a:Nat} (h0:decide (a=0)=false) (h:fJ a pP<0):decide (bK a qP pP=1)=mW a:=by
  unfold mW
  rw [decide_eq_decide,pJ]
  exact ⟨fun e=>⟨of_decide_eq_false h0,vX.1 h,e⟩,fun e=>e.2.2⟩
theorem exp_one (a e:Nat):1=a^(e / 2^dG e)%pP:=by rw [div_lenN,Nat.pow_zero,Nat.mod_eq_of_lt pF]
theorem gexp_lt {a x p:Nat} (hp:p=a^x%pP):p<M:=by rw [hp];exact Nat.lt_trans (Nat.mod_lt _ (by have:=pF;omega)) oV
theorem gexp_end {a e p i:Nat} (hi:i=dG e) (hp:p=a^(e / 2^(dG e-i))%pP):p=bK a e pP:=by
  rw [pJ,hp,hi,Nat.sub_self,Nat.pow_zero,Nat.div_one]
theorem law_mem (x:Nat):mW (bK 4 x pP)=true:=by rw [pJ];exact memB_pow x
def fH (p:Nat):Prop:=1<p∧∀ d,d ∣ p→d=1∨d=p
theorem fH.coprime {p a:Nat} (hp:fH p) (h: ¬ p ∣ a):Nat.Coprime p a:=by
  rcases hp.2 (Nat.gcd p a) (Nat.gcd_dvd_left p a) with h1 | h1
  · exact h1
  · exact absurd (h1 ▸ Nat.gcd_dvd_right p a) h
theorem fH.dvd_mul {p a b:Nat} (hp:fH p) (h:p ∣ a*b):p ∣ a∨p ∣ b:=by
  by_cases ha:p ∣ a
  · exact Or.inl ha
  · exact Or.inr ((hp.coprime ha).dvd_of_dvd_mul_left h)
def rH:Nat→Nat→Nat
  | _,0=>1
  | 0,_+1=>0
  | n+1,k+1=>rH n k+rH n (k+1)
theorem uZ (n:Nat):rH n 0=1:=by cases n<;>rfl
theorem sU:∀ n k,n<k→rH n k=0
  | 0,0,h=>absurd h (by omega)
  | 0,k+1,_=>rfl
  | n+1,0,h=>absurd h (by omega)
  | n+1,k+1,h=>by rw [rH,sU n k (by omega),sU n (k+1) (by omega)]
theorem chs_self:∀ n,rH n n=1
  | 0=>rfl
  | n+1=>by rw [rH,chs_self n,sU n (n+1) (by omega)]
theorem tC:∀ n k,(k+1)*rH (n+1) (k+1)=(n+1)*rH n k
  | 0,0=>rfl
  | 0,k+1=>by rw [sU 1 (k+2) (by omega),sU 0 (k+1) (by omega),Nat.mul_zero,Nat.mul_zero]
  | n + 1, 0 => by
    have:=tC n 0
    rw [uZ] at this ⊢
    rw [show rH (n+1+1) (0+1)=rH (n+1) 0+rH (n+1) (0+1) from rfl,uZ]
    omega
  | n + 1, k + 1 => by
    have h1:=tC n k
    have h2:=tC n (k+1)
    rw [show rH (n+1+1) (k+1+1)=rH (n+1) (k+1)+rH (n+1) (k+1+1) from rfl,Nat.mul_add,h2]
    rw [show rH (n+1) (k+1)=rH n k+rH n (k+1) from rfl] at h1 ⊢
    rw [show (k+1+1)*(rH n k+rH n (k+1))=(k+1)*(rH n k+rH n (k+1))+(rH n k+rH n (k+1)) by rw [Nat.add_mul,Nat.one_mul],h1]
    rw [Nat.add_mul (n+1) 1,Nat.mul_add,Nat.one_mul]
    omega
def sumTo (f:Nat→Nat):Nat→Nat
  | 0=>0
  | n+1=>sumTo f n+f n
theorem sumTo_add (f g:Nat→Nat):∀ n,sumTo (fun k=>f k+g k) n=sumTo f n+sumTo g n
  | 0=>rfl
  | n+1=>by simp only [sumTo,sumTo_add f g n];omega
theorem sumTo_mul (c:Nat) (f:Nat→Nat):∀ n,sumTo (fun k=>c*f k) n=c*sumTo f n
  | 0=>by simp [sumTo]
  | n+1=>by simp only [sumTo,sumTo_mul c f n,Nat.mul_add]
theorem uA (f:Nat→Nat):∀ n,sumTo f (n+1)=f 0+sumTo (fun k=>f (k+1)) n
  | 0=>by simp [sumTo]
  | n + 1 => by
    have:=uA f n
    simp only [sumTo] at *
    omega
theorem sumTo_congr {f g:Nat→Nat}:∀ n,(∀ k,k<n→f k=g k)→sumTo f n=sumTo g n
  | 0,_=>rfl
  | n+1,h=>by simp only [sumTo];rw [sumTo_congr n (fun k hk=>h k (by omega)),h n (by omega)]
theorem binom (x:Nat):∀ n,(x+1)^n=sumTo (fun k=>rH n k*x^k) (n+1)
  | 0=>by simp [sumTo,rH]
  | n + 1 => by
    have ih:=binom x n
    rw [uA,Nat.pow_zero,Nat.mul_one,uZ]
    have e1:sumTo (fun k=>rH (n+1) (k+1)*x^(k+1)) (n+1)=sumTo (fun k=>x*(rH n k*x^k)) (n+1)+sumTo (fun k=>rH n (k+1)*x^(k+1)) (n+1):=by
      rw [← sumTo_add]
      apply sumTo_congr
      intro k _
      rw [rH,Nat.add_mul,Nat.pow_succ,← Nat.mul_assoc (rH n k),Nat.mul_comm (rH n k*x^k) x]
    have e2:sumTo (fun k=>rH n k*x^k) (n+2)=1+sumTo (fun k=>rH n (k+1)*x^(k+1)) (n+1):=by
      rw [uA,Nat.pow_zero,Nat.mul_one,uZ]
    have e3:sumTo (fun k=>rH n k*x^k) (n+2)=sumTo (fun k=>rH n k*x^k) (n+1):=by
      show sumTo (fun k=>rH n k*x^k) (n+1)+rH n (n+1)*x^(n+1)=_
      rw [sU n (n+1) (by omega),Nat.zero_mul,Nat.add_zero]
    rw [e1,sumTo_mul,← ih,Nat.pow_succ,Nat.mul_add,Nat.mul_one,Nat.mul_comm x]
    rw [e3,← ih] at e2
    omega
theorem dvd_sumTo {m:Nat} {f:Nat→Nat}:∀ n,(∀ k,k<n→m ∣ f k)→m ∣ sumTo f n
  | 0,_=>Nat.dvd_zero m
  | n+1,h=>Nat.dvd_add (dvd_sumTo n (fun k hk=>h k (by omega))) (h n (by omega))
theorem dvd_chs {p k:Nat} (hp:fH p) (h0:0<k) (h1:k<p):p ∣ rH p k:=by
  obtain ⟨n,rfl⟩:∃ n,p=n+1:=⟨p-1,by omega⟩
  obtain ⟨j,rfl⟩:∃ j,k=j+1:=⟨k-1,by omega⟩
  have h:=tC n j
  have h2:n+1 ∣ (j+1)*rH (n+1) (j+1):=⟨_,h⟩
  rcases hp.dvd_mul h2 with h3 | h3
  · exact absurd (Nat.le_of_dvd (by omega) h3) (by omega)
  · exact h3
theorem dream {p:Nat} (hp:fH p) (x:Nat):(x+1)^p%p=(x^p+1)%p:=by
  obtain ⟨n,rfl⟩:∃ n,p=n+2:=⟨p-2,by have:=hp.1;omega⟩
  rw [binom]
  show (sumTo (fun k=>rH (n+2) k*x^k) (n+2)+rH (n+2) (n+2)*x^(n+2))%(n+2)=_
  rw [chs_self,Nat.one_mul,uA,Nat.pow_zero,Nat.mul_one,uZ]
  have h:(n+2) ∣ sumTo (fun k=>rH (n+2) (k+1)*x^(k+1)) (n+1):=dvd_sumTo _ (fun k hk=>Nat.dvd_mul_right_of_dvd (dvd_chs hp (by omega) (by omega)) _)
  obtain ⟨c,hc⟩:=h
  rw [hc,show 1+(n+2)*c+x^(n+2)=x^(n+2)+1+(n+2)*c by omega,Nat.add_mul_mod_self_left]
theorem fermat {p:Nat} (hp:fH p):∀ a,a^p%p=a%p
  | 0=>by rw [Nat.zero_pow (by have:=hp.1;omega)]
  | a+1=>by rw [dream hp a,Nat.add_mod,fermat hp a,← Nat.add_mod]
theorem mod_cancel {p a x y:Nat} (hp:fH p) (ha: ¬ p ∣ a) (h:a*x%p=a*y%p) (hxy:y≤x):x%p=y%p:=by
  have h1:=Nat.sub_mod_eq_zero_of_mod_eq h
  rw [← Nat.mul_sub] at h1
  rcases hp.dvd_mul (Nat.dvd_of_mod_eq_zero h1) with h2 | h2
  · exact absurd h2 ha
  · obtain ⟨c, hc⟩ := h2
    rw [show x=y+p*c by omega,Nat.add_mul_mod_self_left]
theorem fermat1 {p a:Nat} (hp:fH p) (ha: ¬ p ∣ a):a^(p-1)%p=1:=by
  have h1:=fermat hp a
  have ha0:0<a:=by
    rcases Nat.eq_zero_or_pos a with rfl | h
    · exact absurd (Nat.dvd_zero p) ha
    · exact h
  have h2:a*a^(p-1)%p=a*1%p:=by
    rw [Nat.mul_one,← h1,Nat.mul_comm,← Nat.pow_succ,show (p-1).succ=p by have:=hp.1;omega]
  rw [mod_cancel hp ha h2 (Nat.pow_pos ha0),Nat.mod_eq_of_lt hp.1]
theorem pow_mod_one {d e m:Nat} (h:e^m%d=1) (hd:1<d) (k:Nat):e^(m*k)%d=1:=by
  rw [Nat.pow_mul,Nat.pow_mod,h,Nat.one_pow,Nat.mod_eq_of_lt hd]
theorem pow_gcd {d e:Nat} (hd:1<d) (m n:Nat):e^m%d=1→e^n%d=1→e^(Nat.gcd m n)%d=1:=by
  induction m,n using Nat.gcd.induction with
  | H0 n=>intro _ h;rw [Nat.gcd_zero_left];exact h
  | H1 m n _ ih =>
    intro h1 h2
    rw [Nat.gcd_rec]
    apply ih _ h1
    have h3:e^n%d=e^(n%m)%d:=by
      have h4:e^n=e^(m*(n / m))*e^(n%m):=by rw [← Nat.pow_add,Nat.div_add_mod]
      rw [h4,Nat.mul_mod,pow_mod_one h1 hd,Nat.one_mul,Nat.mod_mod]
    rw [← h3];exact h2
theorem least_div {n : Nat} (hn : 1 < n) : ∃ d, 1 < d ∧ d ∣ n ∧ fH d ∧ ∀ c, 1 < c → c ∣ n → d ≤ c := by
  have key:∀ k,(∀ c,1<c→c ∣ n→k≤c)∨∃ d,1<d∧d ∣ n∧∀ c,1<c→c ∣ n→d≤c:=by
    intro k
    induction k with
    | zero=>exact Or.inl (fun c _ _=>Nat.zero_le c)
    | succ k ih =>
      rcases ih with h | h
      · by_cases hk : 1 < k ∧ k ∣ n
        · exact Or.inr ⟨k,hk.1,hk.2,h⟩
        · left
          intro c hc hcn
          have:=h c hc hcn
          rcases Nat.eq_or_lt_of_le this with rfl | h2
          · exact absurd ⟨hc,hcn⟩ hk
          · exact h2
      · exact Or.inr h
  rcases key (n+1) with h | ⟨d,h1,h2,h3⟩
  · exact absurd (h n hn (Nat.dvd_refl n)) (by omega)
  · refine ⟨d, h1, h2, ⟨h1, fun c hc => ?_⟩, h3⟩
    by_cases hc1:c=1
    · exact Or.inl hc1
    · right
      have hcpos:0<c:=Nat.pos_of_dvd_of_pos hc (by omega)
      have:=h3 c (by omega) (Nat.dvd_trans hc h2)
      have:=Nat.le_of_dvd (by omega) hc
      omega
theorem pocklington {n q k a : Nat} (hq : fH q) (hn : n = q * k + 1) (hk : 0 < k) (hqq : n < q * q) (h1 : a ^ (n - 1) % n = 1) (h2 : Nat.gcd (a ^ k % n - 1) n = 1) : fH n := by
  have hq1:=hq.1
  have hn1:1<n:=by rw [hn];have:1*1≤q*k:=Nat.mul_le_mul (by omega) hk;omega
  obtain ⟨d,d1,d2,dp,dmin⟩:=least_div hn1
  have hdn:n%d=0:=Nat.mod_eq_zero_of_dvd d2
  have red:∀ x,x%n%d=x%d:=fun x=>Nat.mod_mod_of_dvd x d2
  have e1:(a^k)^q%d=1:=by
    rw [← Nat.pow_mul,Nat.mul_comm k q,show q*k=n-1 by omega,← red,h1,Nat.mod_eq_of_lt d1]
  have e2: ¬ (a^k)%d=1:=by
    intro h
    have h3:a^k%n%d=1:=by rw [red];exact h
    have h4:d ∣ a^k%n-1:=by
      have:=Nat.sub_mod_eq_zero_of_mod_eq (m:=a^k%n) (n:=1) (k:=d) (by rw [h3,Nat.mod_eq_of_lt d1])
      exact Nat.dvd_of_mod_eq_zero this
    have h5:=Nat.dvd_gcd h4 d2
    rw [h2] at h5
    have:=Nat.le_of_dvd (by decide) h5
    omega
  have e3: ¬ d ∣ a^k:=by
    intro h
    have:(a^k)^q%d=0:=by
      obtain ⟨c,hc⟩:=h
      rw [hc,Nat.mul_pow]
      obtain ⟨r,hr⟩:∃ r,q=r+1:=⟨q-1,by omega⟩
      rw [hr,Nat.pow_succ,Nat.mul_assoc,Nat.mul_left_comm]
      exact Nat.mul_mod_right _ _
    rw [e1] at this;exact absurd this (by decide)
  have e4:=fermat1 dp e3
  have e5:=pow_gcd d1 q (d-1) e1 e4
  have e6:q ∣ d-1:=by
    rcases hq.2 _ (Nat.gcd_dvd_left q (d-1)) with h | h
    · rw [h,Nat.pow_one] at e5;exact absurd e5 e2
    · rw [← h];exact Nat.gcd_dvd_right _ _
  have e7:q<d:=by have:=Nat.le_of_dvd (by omega) e6;omega
  refine ⟨hn1,fun c hc=>?_⟩
  by_cases hc1:c=1
  · exact Or.inl hc1
  · right
    obtain ⟨m,hm⟩:=hc
    have hcpos:0<c:=by
      rcases Nat.eq_zero_or_pos c with rfl | h
      · rw [Nat.zero_mul] at hm;omega
      · exact h
    have hcd:=dmin c (by omega) ⟨m,hm⟩
    by_cases hm1:m=1
    · rw [hm,hm1,Nat.mul_one]
    · exfalso
      have hmpos:0<m:=by
        rcases Nat.eq_zero_or_pos m with rfl | h
        · rw [Nat.mul_zero] at hm;omega
        · exact h
      have hmd:=dmin m (by omega) ⟨c,by rw [hm,Nat.mul_comm]⟩
      have:q*q≤c*m:=Nat.mul_le_mul (by omega) (by omega)
      omega
def noDiv (n:Nat):Nat→Bool
  | 0=>true
  | k+1=>(decide (k<2)||n%k != 0)&&noDiv n k
theorem yL {n:Nat}:∀ k,noDiv n k=true→∀ c,1<c→c<k→¬ c ∣ n
  | 0,_,_,_,h=>absurd h (by omega)
  | k + 1, h, c, h1, h2 => by
    rw [noDiv,Bool.and_eq_true] at h
    by_cases hk:c=k
    · subst hk
      intro hd
      have:=h.1
      rw [Nat.mod_eq_zero_of_dvd hd] at this
      simp at this;omega
    · exact yL k h.2 c h1 (by omega)
theorem prime_trial {n k : Nat} (hn : 1 < n) (h : noDiv n k = true) (hk : n < k * k) : fH n := by
  refine ⟨hn,fun c hc=>?_⟩
  by_cases hc1:c=1
  · exact Or.inl hc1
  · right
    obtain ⟨m,hm⟩:=hc
    have hcpos:0<c:=by
      rcases Nat.eq_zero_or_pos c with rfl | h
      · rw [Nat.zero_mul] at hm;omega
      · exact h
    have hck:k≤c:=Nat.le_of_not_lt (fun hlt=>yL k h c (by omega) hlt ⟨m,hm⟩)
    by_cases hm1:m=1
    · rw [hm,hm1,Nat.mul_one]
    · exfalso
      have hmpos:0<m:=by
        rcases Nat.eq_zero_or_pos m with rfl | h
        · rw [Nat.mul_zero] at hm;omega
        · exact h
      have hmk:k≤m:=Nat.le_of_not_lt (fun hlt=>yL k h m (by omega) hlt ⟨c,by rw [hm,Nat.mul_comm]⟩)
      have:k*k≤c*m:=Nat.mul_le_mul hck hmk
      omega
theorem pock {n q k a f:Nat} (hq:fH q) (hn:n=q*k+1) (hk:0<k) (hqq:n<q*q) (hf:n<2^f) (h1:powm n f a (n-1)=1) (h2:Nat.gcd (powm n f a k-1) n=1):fH n:=by
  have hq1:=hq.1
  have hkn:k<n:=by
    have h3:1*k≤q*k:=Nat.mul_le_mul_right _ (by omega)
    omega
  refine pocklington hq hn hk hqq (a:=a) ?_ ?_
  · rw [← powm_eq n f a (n-1) (by omega)];exact h1
  · rw [← powm_eq n f a k (by omega)];exact h2
theorem prime_w:fH 213319:=prime_trial (k:=500) (by decide) (by decide +kernel) (by decide)
theorem prime_v:fH 2155375177:=pock (q:=213319) (k:=10104) (a:=2) (f:=32) prime_w (by decide +kernel) (by decide +kernel) (by decide +kernel) (by decide +kernel) (by decide +kernel) (by decide +kernel)
theorem prime_u:fH 59483944987587859:=pock (q:=2155375177) (k:=27597954) (a:=2) (f:=56) prime_v (by decide +kernel) (by decide +kernel) (by decide +kernel) (by decide +kernel) (by decide +kernel) (by decide +kernel)
theorem prime_t:fH 1202684276868524221513588244947:=pock (q:=59483944987587859) (k:=20218636761894) (a:=2) (f:=100) prime_u (by decide +kernel) (by decide +kernel) (by decide +kernel) (by decide +kernel) (by decide +kernel) (by decide +kernel)
theorem prime_s:fH 3201964079152361724098258636758155557:=pock (q:=1202684276868524221513588244947) (k:=2662348) (a:=2) (f:=122) prime_t (by decide +kernel) (by decide +kernel) (by decide +kernel) (by decide +kernel) (by decide +kernel) (by decide +kernel)
theorem prime_r:fH 2848630210554880446022254608450222949126931851754251657020267:=pock (q:=3201964079152361724098258636758155557) (k:=889650895555637400306338) (a:=2) (f:=201) prime_s (by decide +kernel) (by decide +kernel) (by decide +kernel) (by decide +kernel) (by decide +kernel) (by decide +kernel)
theorem prime_q:fH 57896044618658097711785492504343953926634992332820282019728792003956564801911:=pock (q:=2848630210554880446022254608450222949126931851754251657020267) (k:=20324169983221730) (a:=2) (f:=255) prime_r (by decide +kernel) (by decide +kernel) (by decide +kernel) (by decide +kernel) (by decide +kernel) (by decide +kernel)
def tgN:List UInt8:=[108,105,103,104,116,99,108,105,101,110,116,47,110,111,110,99,101]
def tgC:List UInt8:=[108,105,103,104,116,99,108,105,101,110,116,47,99,104,97,108,108,101,110,103,101]
def scB (a:Nat):Bool:=decide (a<qP)
def iM (x:Nat):Bool:=decide (x≠0∧x<qP)
def dK (x:Nat):Nat:=if iM x=true then bK 4 x pP else 0
def iW (x:Nat):Int:=if iM x=true then 0 else 60
def iY (p:Nat):Bool:=decide (p≠1)&&mW p
def nonN (x m:Nat):Nat:=if bC (lV tgN (hL x++hL m)) 0 qP=0 then 1 else bC (lV tgN (hL x++hL m)) 0 qP
def chaN (r p m:Nat):Nat:=bC (lV tgC ((hL r++hL p)++hL m)) 0 qP
def sigE (x m:Nat):Nat:=if iM x=true then chaN (bK 4 (nonN x m) pP) (bK 4 x pP) m else 0
def sigS (x m:Nat):Nat:=if iM x=true then bC (nonN x m) (bV (chaN (bK 4 (nonN x m) pP) (bK 4 x pP) m) x qP) qP else 0
def recN (p E S:Nat):Nat:=bV (bK 4 S pP) (bK p (qP-E) pP) pP
def verB (p m E S:Nat):Bool:=scB E&&(scB S&&(iY p&&decide (E=chaN (recN p E S) p m)))
theorem addm_q (a b:Nat):bC a b qP=(a+b)%qP:=by unfold bC;rw [if_neg (by have:=qP_pos;omega)]
theorem mulm_q (a b:Nat):bV a b qP=a*b%qP:=by unfold bV;rw [if_neg (by have:=qP_pos;omega)]
theorem addq_lt (a b:Nat):bC a b qP<qP:=by rw [addm_q];exact Nat.mod_lt _ (by have:=qP_pos;omega)
theorem iL:0<M:=by rw [mQ];decide
theorem ifM {c:Prop} [Decidable c] {a b:Nat} (ha:a<M) (hb:b<M):(if c then a else b)<M:=by split<;>assumption
theorem pubV_lt (x:Nat):dK x<M:=ifM (vZ _ _ oV) iL
theorem sc_dec (a:Nat):decide (fJ a qP<0)=scB a:=by
  unfold scB fJ
  by_cases h:a<qP
  · rw [if_pos h,decide_eq_true h];rfl
  · rw [if_neg h,decide_eq_false h];split<;>rfl
theorem sec_0 {x:Nat} (h:decide (x=0)=true):false=iM x:=by
  unfold iM;rw [decide_eq_false];exact fun hh=>hh.1 (of_decide_eq_true h)
theorem sec_1 {x:Nat} (h:decide (x=0)=false):scB x=iM x:=by
  unfold iM scB
  rw [decide_eq_decide]
  exact ⟨fun hx=>⟨of_decide_eq_false h,hx⟩,fun hx=>hx.2⟩
theorem pub_no {x:Nat} (h:iM x=false):dK x=0∧iW x=60:=by unfold dK iW;rw [h];exact ⟨rfl,rfl⟩
theorem lZ {x:Nat} (h:iM x=true):dK x=bK 4 x pP∧iW x=0:=by unfold dK iW;rw [if_pos h,if_pos h];exact ⟨rfl,rfl⟩
theorem val_0 {p:Nat} (h:decide (p=1)=true):false=iY p:=by unfold iY;rw [of_decide_eq_true h];rfl
theorem val_1 {p:Nat} (h:decide (p=1)=false):mW p=iY p:=by
  unfold iY;rw [decide_eq_true (of_decide_eq_false h),Bool.true_and]
theorem sig_yes {x m:Nat} (h:iM x=true):sigE x m=chaN (bK 4 (nonN x m) pP) (dK x) m∧sigS x m=bC (nonN x m) (bV (chaN (bK 4 (nonN x m) pP) (dK x) m) x qP) qP:=by
  unfold sigE sigS
  rw [if_pos h,if_pos h,(lZ h).1];exact ⟨rfl,rfl⟩
theorem qP_prime:fH qP:=prime_q
theorem xBO {x:Nat} (h0:x≠0) (h:x<qP):4^x%pP≠1:=by
  intro h1
  have hg:=pow_gcd (d:=pP) (e:=4) pF x qP h1 four_q
  have hc:Nat.gcd x qP=1:=by
    have:=qP_prime.coprime (a:=x) (fun hd=>absurd (Nat.le_of_dvd (by omega) hd) (by omega))
    rw [Nat.gcd_comm];exact this
  rw [hc] at hg
  exact absurd hg (by unfold pP;decide)
theorem sec_lt {x:Nat} (h:iM x=true):x≠0∧x<qP:=of_decide_eq_true h
theorem val_pub {x:Nat} (h:iM x=true):iY (bK 4 x pP)=true:=by
  have hx:=sec_lt h
  unfold iY
  rw [law_mem,Bool.and_true,pJ]
  exact decide_eq_true (xBO hx.1 hx.2)
theorem cha_q (r p m:Nat):chaN r p m<qP:=addq_lt _ _
theorem sc_cha (r p m:Nat):scB (chaN r p m)=true:=decide_eq_true (addq_lt _ _)
theorem rec_pow (x E S:Nat):recN (bK 4 x pP) E S=4^(S+x*(qP-E))%pP:=by
  unfold recN
  rw [mulm_p,pJ,pJ,pJ,← Nat.pow_mod,← Nat.pow_mul,← Nat.mul_mod,← Nat.pow_add]
theorem rec_sig {x k e:Nat} (he:e<qP):recN (bK 4 x pP) e (bC k (bV e x qP) qP)=bK 4 k pP:=by
  rw [rec_pow,pJ,← pow_red (_+_),← pow_red k,addm_q,mulm_q]
  congr 2
  have h:e*x+x*(qP-e)=x*qP:=by
    rw [Nat.mul_comm e x,← Nat.mul_add,show e+(qP-e)=qP by omega]
  have:((k+e*x%qP)%qP+x*(qP-e))%qP=(k+(e*x+x*(qP-e)))%qP:=by
    rw [Nat.add_mod,Nat.mod_mod,← Nat.add_mod,Nat.add_assoc,Nat.add_mod k,Nat.add_mod (e*x%qP),Nat.mod_mod,← Nat.add_mod (e*x),← Nat.add_mod]
  rw [this,h,Nat.add_mul_mod_self_right]
theorem right {x m:Nat} (h:iM x=true):verB (dK x) m (sigE x m) (sigS x m)=true:=by
  have hs:=sig_yes (m:=m) h
  unfold verB
  rw [hs.1,hs.2,(lZ h).1,sc_cha,val_pub h,rec_sig (cha_q _ _ _)]
  have:scB (bC (nonN x m) (bV (chaN (bK 4 (nonN x m) pP) (bK 4 x pP) m) x qP) qP)=true:=decide_eq_true (addq_lt _ _)
  rw [this,decide_eq_true rfl];rfl
def leB (n:Nat):Nat→List UInt8
  | 0=>[]
  | w+1=>leB n w++[ob ((n / 256^w%256:Nat):Int)]
theorem eQ (n w:Nat):(leB n w).length=w:=by
  induction w with
  | zero=>rfl
  | succ w ih=>simp [leB,ih]
def oZ (n w i:Nat):Array Value:=(bs (leB n i++List.replicate (w-i) 0)).toArray
theorem fill_size {n w i:Nat} (h:i≤w):(oZ n w i).size=w:=by
  simp [oZ,bs,eQ]
  omega
theorem fill_set {n w i:Nat} (h:i<w):(oZ n w i).setIfInBounds i (.int .u8 ((n / 256^i%256:Nat):Int))=oZ n w (i+1):=by
  have hb:bv (ob ((n / 256^i%256:Nat):Int))=.int .u8 ((n / 256^i%256:Nat):Int):=zW ⟨by omega,by omega⟩
  apply Array.ext'
  unfold oZ
  simp only [Array.toList_setIfInBounds]
  obtain ⟨m,hm⟩:∃ m,w-i=m+1:=⟨w-i-1,by omega⟩
  rw [hm,show w-(i+1)=m by omega,← hb]
  rw [bs_app,leB,bs_app,bs_app]
  have hl:(bs (leB n i)).length=i:=by rw [dH,eQ]
  rw [List.set_append_right _ _ (by omega),hl,Nat.sub_self]
  simp [bs,List.replicate_succ]
def leN (xs:List UInt8) (a:Nat):Nat→Nat
  | 0=>0
  | i+1=>leN xs a i+gB xs (a+i)*256^i
theorem leN_lt (xs:List UInt8) (a w:Nat):leN xs a w<256^w:=by
  induction w with
  | zero=>simp [leN]
  | succ w ih =>
    have:=iD xs (a+w)
    rw [leN,Nat.pow_succ]
    have h1:gB xs (a+w)*256^w≤255*256^w:=Nat.mul_le_mul_right _ (by omega)
    omega
theorem leN_or (xs:List UInt8) (a i:Nat):leN xs a i|||gB xs (a+i)*256^i=leN xs a (i+1):=by
  have h:=leN_lt xs a i
  rw [show (256:Nat)=2^8 from rfl,← Nat.pow_mul] at h
  rw [leN,show (256:Nat)=2^8 from rfl,← Nat.pow_mul,Nat.or_comm,Nat.mul_comm,← Nat.two_pow_add_eq_or_of_lt h]
  omega
def rU (n:Nat) (a:Int) (w:Nat):Int:=if a<0∨(n:Int)<a then 5 else if (n:Int)-a<(w:Int) then 1 else 0
def rdN (n:Nat) (a:Int) (w:Nat):Int:=if rU n a w=0 then a+w else 0
def uU (xs:List UInt8) (a:Int) (w:Nat):Nat:=if rU xs.length a w=0 then leN xs a.toNat w else 0
theorem rdE_ok {n:Nat} {a:Int} {w:Nat} (h:(rU n a w != 0)=false):rU n a w=0∧0≤a∧a+w≤n:=by
  have h0:rU n a w=0:=by simpa using h
  refine ⟨h0,?_⟩
  unfold rU at h0
  split at h0
  · exact absurd h0 (by decide)
  · split at h0
    · exact absurd h0 (by decide)
    · omega
theorem rdV_lt (xs:List UInt8) (a:Int) (w:Nat):uU xs a w<256^w:=by
  unfold uU
  split
  · exact leN_lt _ _ _
  · exact Nat.pow_pos (by decide)
theorem rdE5 {n:Nat} {a:Int} {w:Nat} (h:a<0∨(n:Int)<a):rU n a w=5:=if_pos h
theorem rdE1 {n:Nat} {a:Int} {w:Nat} (h: ¬ (a<0∨(n:Int)<a)) (h1:(n:Int)-a<(w:Int)):rU n a w=1:=by rw [rU,if_neg h,if_pos h1]
theorem rdE0 {n:Nat} {a:Int} {w:Nat} (h: ¬ (a<0∨(n:Int)<a)) (h1: ¬ (n:Int)-a<(w:Int)):rU n a w=0:=by rw [rU,if_neg h,if_neg h1]
def szLeast (m:Nat):Nat:=if m=253 then 253 else if m=254 then 65536 else 4294967296
theorem nB_hL {A:Nat} (h:A<M):nB (hL A)=A:=by
  have h1:=hB_nB (aO A)
  have h2:(bs (hL A)).toArray=hB A:=((xBR A).eq (by rw [yV,aO])).symm
  rw [h2] at h1
  have h3:=(byt_inj h (nB_M (aO A))).1 (fun i hi=>by
    have h4:=congrArg (fun z:Array Value=>z[i]?) h1
    simp only [hB_get _ i hi,Option.some.injEq,Value.int.injEq,true_and] at h4
    exact_mod_cast h4)
  exact h3.symm
def tgM:List UInt8:=[108,105,103,104,116,99,108,105,101,110,116,47,109,97,115,116,101,114]
def tgI:List UInt8:=[108,105,103,104,116,99,108,105,101,110,116,47,99,104,97,105,110]
structure Ky.Ok (k:Ky):Prop where
  s:k.s<M
  p:k.p<M
  c:k.c<M
  i:k.i<4294967296
  n:k.n<4294967296
def Ky.z:Ky:=⟨0,0,0,0,0,0⟩
theorem Ky.z_ok:Ky.z.Ok:=⟨iL,iL,iL,by decide,by decide⟩
def Ky.neu (k:Ky):Ky:={ k with s:=0}
def hdB (i:Nat):Bool:=decide (2147483648≤i)
def fC (k:Ky):Bool:=decide (0≤k.d)&&(decide (k.d≤8)&&(iY k.p&&(decide (k.s=0)||(decide (iW k.s=0)&&decide (dK k.s=k.p)))))
def bN (D j:Nat):Nat:=D / 256^(31-j)%256
theorem byt_bN (D j:Nat):nR D j=((bN D j:Nat):Int):=rfl
theorem oI {k:Ky} (h:fC k=true):0≤k.d∧k.d≤8∧iY k.p=true∧(k.s=0∨(iM k.s=true∧dK k.s=k.p)):=by
  unfold fC at h
  simp only [Bool.and_eq_true,Bool.or_eq_true,decide_eq_true_eq] at h
  refine ⟨h.1,h.2.1,h.2.2.1,h.2.2.2.imp id (fun q=>⟨?_,q.2⟩)⟩
  cases e:iM k.s
  · have:=q.1;rw [(pub_no e).2] at this;exact absurd this (by decide)
  · rfl
theorem snd_mk {k:Ky} (h0:0≤k.d) (h8:k.d≤8) (hv:iY k.p=true) (hs:k.s=0∨(iM k.s=true∧dK k.s=k.p)):fC k=true:=by
  unfold fC
  rw [decide_eq_true h0,decide_eq_true h8,hv]
  rcases hs with hs | ⟨hs,hp⟩
  · rw [decide_eq_true hs];rfl
  · rw [decide_eq_true hp,decide_eq_true (lZ hs).2,Bool.and_self,Bool.or_true];rfl
theorem low_byte (n i:Nat):IntKind.u8.wrap ((n / 2^(8*i):Nat):Int)=((n / 256^i%256:Nat):Int):=by
  rw [wrapU rfl,show (256:Nat)^i=2^(8*i) by rw [show (256:Nat)=2^8 from rfl,← Nat.pow_mul]]
  rfl
theorem fill_end {n m i:Nat} (h:i=m):leB n i++List.replicate (m-i) 0=leB n m:=by
  subst h;simp
theorem zX {n m i:Nat} (h:i≤m):(leB n i++List.replicate (m-i) 0).length=m:=by
  rw [List.length_append,eQ,List.length_replicate];omega
theorem gB_in {k:IntKind} (hk:k.signed=false) (h8:8≤k.bits) (xs:List UInt8) (i:Nat):k.wrap ((gB xs i:Nat):Int)=((gB xs i:Nat):Int) :=
  oO hk (Nat.lt_of_lt_of_le (iD xs i) (Nat.pow_le_pow_right (n:=2) (by decide) h8))
theorem pow256 (i:Nat):(256:Nat)^i=2^(8*i):=by rw [show (256:Nat)=2^8 from rfl,← Nat.pow_mul]
theorem shl_in {k:IntKind} {x i:Nat} (hx:x<256) (hi:8*(i+1)≤k.bits):x*2^(8*i)<2^k.bits:=by
  have h1:x*2^(8*i)<256*2^(8*i):=Nat.mul_lt_mul_of_pos_right hx (Nat.pow_pos (by decide))
  have h2:256*2^(8*i)≤2^k.bits:=by
    rw [show (256:Nat)=2^8 from rfl,← Nat.pow_add]
    exact Nat.pow_le_pow_right (by decide) (by omega)
  omega
theorem run_shl8 {P:Program} {t:TypeId} {k yk:IntKind} (hk:k.signed=false) (xs:List UInt8) (j i:Nat) (hi:8*(i+1)≤k.bits) (w:World):(binOp .shl t (.int k ((gB xs j:Nat):Int)) (.int yk ((8*i:Nat):Int))).run P w=.ok (.int k ((gB xs j*256^i:Nat):Int)) w:=by
  rw [pow256]
  exact sV hk (shl_in (iD xs j) hi) (fun _=>by omega) w
theorem or_leN {k:IntKind} (hk:k.signed=false) (xs:List UInt8) (a i:Nat) (hi:8*(i+1)≤k.bits):bits .or k ((leN xs a i:Nat):Int) ((gB xs (a+i)*256^i:Nat):Int)=((leN xs a (i+1):Nat):Int):=by
  have h1:=leN_lt xs a i
  rw [pow256] at h1
  have h2:=shl_in (k:=k) (iD xs (a+i)) hi
  rw [xBB hk (Nat.lt_of_lt_of_le h1 (Nat.pow_le_pow_right (by decide) (by omega))) (by rw [pow256];exact h2),leN_or]
def rdT (k:IntKind) (xs:List UInt8) (z:Int) (m:Nat):Value:=.tuple #[.int k ((uU xs z m:Nat):Int),.int .i64 (rdN xs.length z m),.int .i64 (rU xs.length z m)]
theorem rdT_err {k:IntKind} {xs:List UInt8} {z e:Int} {m:Nat} (h:rU xs.length z m=e) (he:e≠0):(.tuple #[.int k 0,.int .i64 0,.int .i64 e]:Value)=rdT k xs z m:=by
  have h0:rU xs.length z m≠0:=by rw [h];exact he
  unfold rdT uU rdN
  rw [if_neg h0,if_neg h0,h];rfl
theorem rdT_ok {k:IntKind} {xs:List UInt8} {z:Int} {m i:Nat} (h:rU xs.length z m=0) (hi:i=m):(.tuple #[.int k ((leN xs z.toNat i:Nat):Int),.int .i64 (z+(m:Int)),.int .i64 0]:Value)=rdT k xs z m:=by
  subst hi
  unfold rdT uU rdN
  rw [if_pos h,if_pos h,h]
theorem nZ {n:Nat} {z:Int} {m:Nat} (h:rU n z m=0):0≤z∧z+m≤n:=(rdE_ok (by rw [h];rfl)).2
section
variable {B : List UInt8} {z : Int} {q m w l : Nat} {e : Int} (h : rU B.length z 1 = 0) (hm : uU B z 1 = m) (h3 : 253 ≤ m) (hw : 2 ^ (m - 252) = w) (hl : szLeast m = l)
include h hm h3 hw
include hl
end
def nM (B:List UInt8) (z:Int):Nat:=if rU B.length z 32=0 then nB ((mid B z.toNat B.length).take 32) else 0
theorem hs_err {B:List UInt8} {z e:Int} (h:rU B.length z 32=e) (he:e≠0):(.tuple #[.agg (hB 0),.int .i64 0,.int .i64 e]:Value)=.tuple #[.agg (hB (nM B z)),.int .i64 (rdN B.length z 32),.int .i64 (rU B.length z 32)]:=by
  have h0:rU B.length z 32≠0:=by rw [h];exact he
  unfold nM rdN
  rw [if_neg h0,if_neg h0,h]
theorem hs_ok {B:List UInt8} {z:Int} (h:rU B.length z 32=0):(.tuple #[.agg (hB (nB ((mid B z.toNat B.length).take 32))),.int .i64 (z+32),.int .i64 0]:Value)=.tuple #[.agg (hB (nM B z)),.int .i64 (rdN B.length z 32),.int .i64 (rU B.length z 32)]:=by
  unfold nM rdN
  rw [if_pos h,if_pos h,h];rfl
theorem hsV_lt {B:List UInt8} {z:Int}:nM B z<M:=by
  unfold nM
  split
  · rename_i h
    have:=nZ h
    refine nB_M ?_
    rw [List.length_take,kS _ _ _ (Nat.le_refl _)]
    omega
  · rw [mQ];decide
def enE (n:Nat) (z:Int):Int:=if z<0∨(n:Int)<z then 5 else if z<(n:Int) then 2 else 0
theorem en0 {n:Nat} {z:Int} (h: ¬ (z<0∨(n:Int)<z)) (h1: ¬ z<(n:Int)):enE n z=0:=by rw [enE,if_neg h,if_neg h1]
theorem gB_leB {n w i:Nat} (h:i<w):gB (leB n w) i=n / 256^i%256:=by
  induction w with
  | zero=>omega
  | succ w ih =>
    rw [leB]
    rcases (by omega:i<w∨i=w) with e | e
    · rw [gB_app_l _ (by rw [eQ];exact e)];exact ih e
    · subst e
      have:=gB_app_r (leB n i) [ob ((n / 256^i%256:Nat):Int)] 0
      rw [eQ,Nat.add_zero] at this
      rw [this]
      exact ob_lt (by omega)
theorem leN_at (P Q:List UInt8) (n W:Nat):∀ k,k≤W→leN (P++leB n W++Q) P.length k=n%256^k
  | 0,_=>by simp [leN,Nat.mod_one]
  | k + 1, h => by
    rw [leN,leN_at P Q n W k (by omega),gB_app_l _ (by rw [List.length_append,eQ];omega),gB_app_r,gB_leB (by omega),Nat.mod_pow_succ,Nat.mul_comm]
theorem rd_at {A P Q:List UInt8} {n w z:Nat} (hA:A=P++leB n w++Q) (hz:z=P.length) (hn:n<256^w):rU A.length (z:Int) w=0∧rdN A.length (z:Int) w=((z+w:Nat):Int)∧uU A (z:Int) w=n:=by
  have hl:A.length=z+w+Q.length:=by rw [hA,hz,List.length_append,List.length_append,eQ]
  have h0:rU A.length (z:Int) w=0:=rdE0 (by omega) (by omega)
  refine ⟨h0,?_,?_⟩
  · rw [rdN,if_pos h0];omega
  · rw [uU,if_pos h0,Int.toNat_natCast,hz,hA,leN_at P Q n w w (Nat.le_refl _),Nat.mod_eq_of_lt hn]
theorem hL_inj {A B:Nat} (hA:A<M) (hb:B<M) (h:hL A=hL B):A=B:=by
  refine (byt_inj hA hb).1 fun i hi=>?_
  have h1:=congrArg (fun l=>l[i]?) h
  simp only [hL,List.getElem?_map,List.getElem?_range hi,Option.map_some,Option.some.injEq] at h1
  have g:∀ C,0≤nR C i∧nR C i<256:=fun C=>by unfold nR;omega
  have h2:=congrArg (fun x:UInt8=>((x.toNat:Nat):Int)) h1
  simp only [ob_nat (g A),ob_nat (g B)] at h2
  exact h2
theorem nB_hL2 {A:Nat} (hA:A<M):nB (hL A)=A:=hL_inj (nB_M (aO A)) hA (hL_nB (aO A))
theorem hs_at {A P Q:List UInt8} {h z:Nat} (hA:A=P++hL h++Q) (hz:z=P.length) (hh:h<M):nM A (z:Int)=h∧rdN A.length (z:Int) 32=((z+32:Nat):Int)∧rU A.length (z:Int) 32=0:=by
  have hl:A.length=z+32+Q.length:=by rw [hA,hz,List.length_append,List.length_append,aO]
  have h0:rU A.length (z:Int) 32=0:=rdE0 (by omega) (by omega)
  refine ⟨?_,?_,h0⟩
  · rw [nM, if_pos h0, Int.toNat_natCast]
    have e:(mid A z A.length).take 32=hL h:=by
      unfold mid
      rw [List.take_length,hA,hz,List.append_assoc,List.drop_left,List.take_append_of_le_length (by rw [aO];omega),List.take_of_length_le (by rw [aO];omega)]
    rw [e,nB_hL2 hh]
  · rw [rdN,if_pos h0];omega
def oH (d:Int):Int:=IntKind.u8.wrap d
theorem dpI_rng (d:Int):0≤oH d∧oH d<256:=by
  unfold oH IntKind.wrap
  simp [IntKind.signed,IntKind.bits]
  omega
def flg (s:Nat):Int:=if s=0 then 0 else 1
def lst (k:Ky):Nat:=if k.s=0 then k.p else k.s
def sJ (k:Ky):List UInt8:=((([ob (flg k.s),ob (oH k.d)]++leB k.i 4)++leB k.n 4)++hL k.c)++hL (lst k)
theorem xE (k:Ky):(sJ k).length=74:=by simp [sJ,eQ,aO]
theorem en_0 {k:Ky} (h:decide (k.s=0)=true):((([ob 0,ob (oH k.d)]++leB k.i 4)++leB k.n 4)++hL k.c)++hL k.p=sJ k:=by
  unfold sJ flg lst;rw [if_pos (of_decide_eq_true h),if_pos (of_decide_eq_true h)]
theorem en_1 {k:Ky} (h:decide (k.s=0)=false):((([ob 1,ob (oH k.d)]++leB k.i 4)++leB k.n 4)++hL k.c)++hL k.s=sJ k:=by
  unfold sJ flg lst;rw [if_neg (of_decide_eq_false h),if_neg (of_decide_eq_false h)]
def kdE (B:List UInt8):Int :=
  if B.length≠74 then 8 else if 1<gB B 0∨8<gB B 1 then 5 else if gB B 0=0 then (if iY (nM B 42)=true then 0 else 60) else iW (nM B 42)
def iU (B:List UInt8):Ky :=
  if kdE B=0 then ⟨if gB B 0=0 then 0 else nM B 42,if gB B 0=0 then nM B 42 else dK (nM B 42),nM B 10,((gB B 1:Nat):Int),uU B 2 4,uU B 6 4⟩ else Ky.z
theorem kdK_ok (B:List UInt8):(iU B).Ok:=by
  unfold iU
  split
  · exact ⟨ifM iL hsV_lt,ifM hsV_lt (pubV_lt _),hsV_lt,rdV_lt B 2 4,rdV_lt B 6 4⟩
  · exact Ky.z_ok
theorem dc_8 {B:List UInt8} (h:B.length≠74):kdE B=8∧iU B=Ky.z:=by
  have e:kdE B=8:=by unfold kdE;rw [if_pos h]
  exact ⟨e,by unfold iU;rw [e];rfl⟩
theorem dc_5 {B:List UInt8} (h:B.length=74) (h1:1<gB B 0∨8<gB B 1):kdE B=5∧iU B=Ky.z:=by
  have e:kdE B=5:=by unfold kdE;rw [if_neg (by omega),if_pos h1]
  exact ⟨e,by unfold iU;rw [e];rfl⟩
theorem dc_v0 {B:List UInt8} (h:B.length=74) (h1: ¬ (1<gB B 0∨8<gB B 1)) (h2:gB B 0=0) (hv:iY (nM B 42)=false):kdE B=60∧iU B=Ky.z:=by
  have e:kdE B=60:=by unfold kdE;rw [if_neg (by omega),if_neg h1,if_pos h2,hv];rfl
  exact ⟨e,by unfold iU;rw [e];rfl⟩
theorem dc_v1 {B:List UInt8} (h:B.length=74) (h1: ¬ (1<gB B 0∨8<gB B 1)) (h2:gB B 0=0) (hv:iY (nM B 42)=true):kdE B=0∧iU B=⟨0,nM B 42,nM B 10,((gB B 1:Nat):Int),uU B 2 4,uU B 6 4⟩:=by
  have e:kdE B=0:=by unfold kdE;rw [if_neg (by omega),if_neg h1,if_pos h2,hv];rfl
  exact ⟨e,by unfold iU;rw [if_pos e,if_pos h2,if_pos h2]⟩
theorem dc_s0 {B:List UInt8} (h:B.length=74) (h1: ¬ (1<gB B 0∨8<gB B 1)) (h2:gB B 0≠0) (hv:iW (nM B 42)≠0):kdE B=iW (nM B 42)∧kdE B=60∧iU B=Ky.z:=by
  have e:kdE B=iW (nM B 42):=by unfold kdE;rw [if_neg (by omega),if_neg h1,if_neg h2]
  have h6:iW (nM B 42)=60:=by
    cases es:iM (nM B 42)
    · exact (pub_no es).2
    · exact absurd (lZ es).2 hv
  exact ⟨e,e.trans h6,by unfold iU;rw [if_neg (by rw [e];exact hv)]⟩
theorem dc_s1 {B:List UInt8} (h:B.length=74) (h1: ¬ (1<gB B 0∨8<gB B 1)) (h2:gB B 0≠0) (hv:iW (nM B 42)=0):kdE B=0∧iU B=⟨nM B 42,dK (nM B 42),nM B 10,((gB B 1:Nat):Int),uU B 2 4,uU B 6 4⟩:=by
  have e:kdE B=0:=by unfold kdE;rw [if_neg (by omega),if_neg h1,if_neg h2,hv]
  exact ⟨e,by unfold iU;rw [if_pos e,if_neg h2,if_neg h2]⟩
theorem en_back {k:Ky} (hk:k.Ok) (h:fC k=true) (hs:k.s=0):kdE (sJ k)=0∧iU (sJ k)=k:=by
  obtain ⟨g0,g8,gv,_⟩:=oI h
  have hl:lst k=k.p:=by unfold lst;rw [if_pos hs]
  have hf:flg k.s=0:=by unfold flg;rw [if_pos hs]
  have hd:oH k.d=k.d:=by
    unfold oH IntKind.wrap
    simp [IntKind.signed,IntKind.bits]
    omega
  have hB0:gB (sJ k) 0=0:=by show (ob (flg k.s)).toNat=0;rw [hf];rfl
  have hB1:((gB (sJ k) 1:Nat):Int)=k.d:=by
    show (((ob (oH k.d)).toNat:Nat):Int)=k.d
    rw [hd];exact ob_nat ⟨g0,by omega⟩
  have hi:=(rd_at (A:=sJ k) (P:=[ob (flg k.s),ob (oH k.d)]) (Q:=leB k.n 4++(hL k.c++hL (lst k))) (n:=k.i) (w:=4) (z:=2) (by unfold sJ;simp only [List.append_assoc]) rfl hk.i).2.2
  have hn:=(rd_at (A:=sJ k) (P:=[ob (flg k.s),ob (oH k.d)]++leB k.i 4) (Q:=hL k.c++hL (lst k)) (n:=k.n) (w:=4) (z:=6) (by unfold sJ;simp only [List.append_assoc]) (by simp [eQ]) hk.n).2.2
  have hc:=(hs_at (A:=sJ k) (P:=([ob (flg k.s),ob (oH k.d)]++leB k.i 4)++leB k.n 4) (Q:=hL (lst k)) (h:=k.c) (z:=10) rfl (by simp [eQ]) hk.c).1
  have hp:=(hs_at (A:=sJ k) (P:=(([ob (flg k.s),ob (oH k.d)]++leB k.i 4)++leB k.n 4)++hL k.c) (Q:=[]) (h:=k.p) (z:=42) (by unfold sJ;rw [hl,List.append_nil]) (by simp [eQ,aO]) hk.p).1
  have hi:uU (sJ k) 2 4=k.i:=hi
  have hn:uU (sJ k) 6 4=k.n:=hn
  have hc:nM (sJ k) 10=k.c:=hc
  have hp:nM (sJ k) 42=k.p:=hp
  have h1: ¬ (1<gB (sJ k) 0∨8<gB (sJ k) 1):=by omega
  have hh:=dc_v1 (xE k) h1 hB0 (by rw [hp];exact gv)
  refine ⟨hh.1,hh.2.trans ?_⟩
  rw [hi,hn,hc,hp,hB1,← hs]
theorem bits_xorU {k:IntKind} (hk:k.signed=false) {a b:Nat} (ha:a<2^k.bits) (hb:b<2^k.bits):bits .xor k (a:Int) (b:Int)=((a^^^b:Nat):Int):=by
  have e:∀ n:Nat,n<2^k.bits→(BitVec.ofInt k.bits (n:Int)).toNat=n:=by
    intro n hn
    rw [BitVec.toNat_ofInt]
    rw [show ((2^k.bits:Nat):Int)=((2^k.bits:Nat):Int) from rfl,← Int.natCast_emod,Int.toNat_natCast,Nat.mod_eq_of_lt hn]
  unfold bits
  simp only []
  rw [BitVec.toNat_xor,e a ha,e b hb,oO hk (Nat.xor_lt_two_pow ha hb)]
theorem lH {a b:Nat} (ha:a<4294967296) (hb:b<4294967296):bits .xor .u32 (a:Int) (b:Int)=((a^^^b:Nat):Int):=bits_xorU rfl ha hb
theorem xR {a b:Nat} (ha:a<4294967296) (hb:b<4294967296):bits .and .u32 (a:Int) (b:Int)=((a&&&b:Nat):Int):=bits_andU rfl ha hb
theorem not_xor32 {a:Nat} (ha:a<4294967296):bits .xor .u32 4294967295 (a:Int)=((dW a:Nat):Int):=by
  refine (bits_xorU (k:=.u32) rfl (a:=4294967295) (b:=a) (by decide) ha).trans ?_
  congr 1
  unfold dW
  have h:(4294967295-BitVec.ofNat 32 a).toNat=(BitVec.ofNat 32 a^^^4294967295).toNat:=by
    have h2:BitVec.ofNat 32 a^^^4294967295= ~~~ (BitVec.ofNat 32 a):=by
      rw [show (4294967295:BitVec 32)=BitVec.allOnes 32 from rfl,BitVec.xor_allOnes]
    rw [h2,BitVec.toNat_not,BitVec.toNat_sub]
    have h3:(BitVec.ofNat 32 a).toNat=a:=by simp [Nat.mod_eq_of_lt ha]
    rw [h3]
    show (2^32-a+4294967295)%2^32=2^32-1-a
    omega
  have h3:(BitVec.ofNat 32 a).toNat=a:=by simp [Nat.mod_eq_of_lt ha]
  rw [BitVec.toNat_xor,BitVec.toNat_sub,h3] at h
  have h4:(4294967295:BitVec 32).toNat=4294967295:=rfl
  rw [h4] at h
  rw [Nat.xor_comm,← h]
  show (2^32-a+4294967295)%2^32=4294967295-a
  omega
theorem bP (x y:Nat):IntKind.u32.wrap ((x:Int)+(y:Int))=((add32 x y:Nat):Int):=by
  rw [← Int.natCast_add];exact u32M (x+y)
theorem u64_neg {n:Nat} (h0:0<n) (h:n<32):IntKind.u64.wrap (0-(n:Int))=((18446744073709551616-n:Nat):Int):=by
  simp only [IntKind.wrap]
  show (0-(n:Int))%18446744073709551616=_
  omega
theorem and31 {n:Nat} (h0:0<n) (h:n<32):bits .and .u64 ((18446744073709551616-n:Nat):Int) 31=((32-n:Nat):Int):=by
  refine (bits_andU (k:=.u64) rfl (a:=18446744073709551616-n) (b:=31) (by show _<18446744073709551616;omega) (by decide)).trans ?_
  congr 1
  rw [show (31:Nat)=2^5-1 from rfl,Nat.and_two_pow_sub_one_eq_mod]
  omega
theorem u64_32 {n:Nat} (h0:0<n) (h:n<32):IntKind.u64.wrap (32-((32-n:Nat):Int))=((n:Nat):Int):=by
  rw [show (32:Int)-((32-n:Nat):Int)=((n:Nat):Int) by omega]
  exact u64N (by omega)
theorem run_shlM {P:Program} {t:TypeId} {yk:IntKind} {x c:Nat} (hc:c≤32) (w:World):(binOp .shl t (.int .u32 (x:Int)) (.int yk (c:Int))).run P w=.ok (.int .u32 ((x*2^c%4294967296:Nat):Int)) w:=by
  have e:IntKind.u32.wrap ((x:Int)*2^(min (c:Int).toNat IntKind.u32.bits))=((x*2^c%4294967296:Nat):Int):=by
    rw [Int.toNat_natCast,Nat.min_eq_left (show c≤IntKind.u32.bits from hc),show (x:Int)*2^c=((x*2^c:Nat):Int) by simp]
    exact u32M _
  simp only [binOp,Op.shift,if_neg (by omega: ¬ (c:Int)<0),e]
  rfl
theorem or_rot {x n:Nat} (hx:x<4294967296):bits .or .u32 ((x*2^(32-n)%4294967296:Nat):Int) ((x / 2^n:Nat):Int)=((aH x n:Nat):Int) :=
  xBB (k:=.u32) rfl (Nat.mod_lt _ (by decide)) (rV n hx)
def zJ (X:List UInt8) (i:Nat):Nat→Nat
  | 0=>0
  | j+1=>zJ X i j*256+gB X (4*i+j)
theorem pwb_lt (X:List UInt8) (i:Nat):∀ j,zJ X i j<256^j
  | 0=>by simp [zJ]
  | j+1=>by have:=pwb_lt X i j;have:=iD X (4*i+j);rw [zJ,Nat.pow_succ];omega
theorem pwb_small {X:List UInt8} {i j:Nat} (h:j<4):zJ X i j<16777216 :=
  Nat.lt_of_lt_of_le (pwb_lt X i j) (by rw [show (16777216:Nat)=256^3 from rfl];exact Nat.pow_le_pow_right (by decide) (by omega))
theorem pwb_word (X:List UInt8) (i:Nat):zJ X i 4=word X i:=by simp [zJ,word]
theorem run_pw8 {P:Program} {t:TypeId} {X:List UInt8} {i j:Nat} (h:j<4) (w:World):(binOp .shl t (.int .u32 ((zJ X i j:Nat):Int)) (.int .u64 8)).run P w=.ok (.int .u32 ((zJ X i j*256:Nat):Int)) w :=
  sV (k:=.u32) (yk:=.u64) (x:=zJ X i j) (c:=8) rfl (by have:=pwb_small (X:=X) (i:=i) h;show zJ X i j*256<4294967296;omega) (fun _=>by decide) w
theorem or_pw {X:List UInt8} {i j:Nat} (h:j<4):bits .or .u32 ((zJ X i j*256:Nat):Int) ((gB X (4*i+j):Nat):Int)=((zJ X i (j+1):Nat):Int):=by
  have h1:=pwb_small (X:=X) (i:=i) h
  have h2:=iD X (4*i+j)
  rw [xBB (k:=.u32) rfl (by show _<4294967296;omega) (by show _<4294967296;omega)]
  congr 1
  rw [Nat.mul_comm,show (256:Nat)=2^8 from rfl,← Nat.two_pow_add_eq_or_of_lt h2,zJ,Nat.mul_comm]
def sc (X:List UInt8) (i j m:Nat):Nat:=if m<i then word X m else if m=i then zJ X i j else 0
def tc (X:List UInt8) (i m:Nat):Nat:=if m<i then wN X m else 0
theorem sc_zero (X:List UInt8) (m:Nat):sc X 0 0 m=0:=by unfold sc;rw [if_neg (by omega)];split<;>rfl
theorem sc_at (X:List UInt8) (i j:Nat):sc X i j i=zJ X i j:=by unfold sc;rw [if_neg (by omega),if_pos rfl]
theorem sc_set {X:List UInt8} {i j:Nat}:(bY .u32 64 (sc X i j)).setIfInBounds i (.int .u32 ((zJ X i (j+1):Nat):Int))=bY .u32 64 (sc X i (j+1)):=by
  rw [wI]
  refine fG fun m _=>?_
  by_cases e:m=i
  · rw [if_pos e,e,sc_at]
  · rw [if_neg e];unfold sc;rw [if_neg e,if_neg e]
theorem sc_next (X:List UInt8) (i:Nat):bY .u32 64 (sc X i 4)=bY .u32 64 (sc X (i+1) 0):=by
  refine fG fun m _=>?_
  unfold sc
  by_cases h1:m<i
  · rw [if_pos h1,if_pos (by omega)]
  · rw [if_neg h1]
    by_cases h2:m=i
    · rw [if_pos h2,if_pos (by omega),h2,pwb_word]
    · rw [if_neg h2, if_neg (by omega)]
      split<;>rfl
theorem sc_tc (X:List UInt8):bY .u32 64 (sc X 16 0)=bY .u32 64 (tc X 16):=by
  refine fG fun m _=>?_
  unfold sc tc
  by_cases h1:m<16
  · rw [if_pos h1,if_pos h1,wN_word h1]
  · rw [if_neg h1,if_neg h1];split<;>rfl
theorem lM {X:List UInt8} {i m:Nat} (h:m<i) (h64:m<64):(bY .u32 64 (tc X i))[m]? = some (.int .u32 ((wN X m:Nat):Int)):=by
  rw [nG h64,tc,if_pos h]
theorem tc_set {X:List UInt8} {i v:Nat} (hv:v=wN X i):(bY .u32 64 (tc X i)).setIfInBounds i (.int .u32 ((v:Nat):Int))=bY .u32 64 (tc X (i+1)):=by
  rw [wI]
  refine fG fun m _=>?_
  unfold tc
  by_cases e:m=i
  · rw [if_pos e,if_pos (by omega),e,hv]
  · rw [if_neg e]
    by_cases h1:m<i
    · rw [if_pos h1,if_pos (by omega)]
    · rw [if_neg h1,if_neg (by omega)]
theorem tc_end {X:List UInt8} {i:Nat} (h:64≤i):bY .u32 64 (tc X i)=bY .u32 64 (wN X):=by
  refine fG fun m hm=>?_
  rw [tc,if_pos (by omega)]
theorem kC_get {i:Nat} (h:i<64):(bY .u32 64 kN)[i]? = some (.int .u32 ((kN i:Nat):Int)):=nG h
theorem cmp_end {X:List UInt8} {a b c d e f g h a' b' c' d' e' f' g' h' i:Nat} (hr:rnds X (a,b,c,d,e,f,g,h) i=(a',b',c',d',e',f',g',h')) (hi:i=64) :
    eF (a,b,c,d,e,f,g,h) X=(add32 a a',add32 b b',add32 c c',add32 d d',add32 e e',add32 f f',add32 g g',add32 h h'):=by
  subst hi
  rw [eF,hr];rfl
theorem mid_take {m:List UInt8} {a:Nat} (n:Nat) (_h:a+n≤m.length):(mid m a m.length).take n=mid m a (a+n):=by
  unfold mid
  rw [List.take_length,List.take_drop,Nat.add_comm]
theorem pad_hd0 (n:Nat):Hd ((zB (9+zeros n)).setIfInBounds 0 (.int .u8 128)) (128::List.replicate (zeros n) 0):=by
  unfold Hd zB
  simp only [Array.toList_setIfInBounds]
  rw [show 9+zeros n=(zeros n+8)+1 by omega,List.replicate_succ]
  show (((bv 0::bs (List.replicate (zeros n+8) 0)).set 0 (.int .u8 128)).take (List.replicate (zeros n) (0:UInt8)).length.succ)=_
  rw [List.set_cons_zero,List.take_succ_cons,List.length_replicate]
  show _=bv 128::bs (List.replicate (zeros n) 0)
  congr 1
  unfold bs
  rw [List.map_replicate,List.map_replicate,List.take_replicate,Nat.min_eq_left (by omega)]
theorem pad_next {n i:Nat} {X:List UInt8} (hX:X=128::(List.replicate (zeros n) 0++be8 (8*n) i)):X++[ob ((8*n / 2^(56-8*i)%256:Nat):Int)]=128::(List.replicate (zeros n) 0++be8 (8*n) (i+1)):=by
  rw [hX,be8_succ];simp
theorem pad_end {n i:Nat} {X:List UInt8} (hX:X=128::(List.replicate (zeros n) 0++be8 (8*n) i)) (hi:i=8):X=aY n:=by
  subst hi;exact hX
theorem dZ {n i:Nat} {X:List UInt8} (hX:X=128::(List.replicate (zeros n) 0++be8 (8*n) i)):X.length=1+zeros n+i:=by
  rw [hX];simp [be8_length];omega
def yU (s:nS) (m j:Nat):Nat:=if j<m then iT s (j / 4) / 2^(24-j%4*8)%256 else 0
theorem hB0_row (s:nS):hB 0=bY .u8 32 (yU s 0):=by
  have h:bY .u8 32 (yU s 0)=bY .u8 32 (fun _=>0):=fG fun m _=>by unfold yU;rw [if_neg (by omega)]
  exact (show hB 0=bY .u8 32 (fun _=>0) by kernel_rfl).trans h.symm
theorem zI {s:nS} {m v:Nat} (hv:v=iT s (m / 4) / 2^(24-m%4*8)%256):(bY .u8 32 (yU s m)).setIfInBounds m (.int .u8 ((v:Nat):Int))=bY .u8 32 (yU s (m+1)):=by
  rw [wI]
  refine fG fun j _=>?_
  unfold yU
  by_cases e:j=m
  · rw [if_pos e,if_pos (by omega),e,hv]
  · rw [if_neg e]
    by_cases h1:j<m
    · rw [if_pos h1,if_pos (by omega)]
    · rw [if_neg h1,if_neg (by omega)]
theorem dgf_end {s:nS} {m:Nat} (h:32≤m):bY .u8 32 (yU s m)=hB (nB (xBL s)):=by
  rw [← rowK_bytes]
  refine fG fun j hj=>?_
  rw [yU,if_pos (by omega)]
theorem sha_next {m:List UInt8} {i:Nat} {s:nS} (hS:xBK m i=s) (h:64*i+64≤m.length):xBK m (i+1)=eF s ((mid m (64*i) m.length).take 64):=by
  rw [xBK,hS,mid_take 64 h]
theorem sha_end {b:List UInt8} {i:Nat} {s:nS} (hS:xBK (b++aY b.length) i=s) (hi:i=(b++aY b.length).length / 64):nB (xBL s)=aU b:=by
  subst hi;rw [← hS];rfl
theorem bJ (b:List UInt8):(b++aY b.length).length=b.length+zeros b.length+9:=by rw [List.length_append,yG];omega
section
variable {P : Program} {e : TypeId}
end
abbrev kJ (w:World):Prop:=Kb w 1 (bY .u32 64 kN)
abbrev fU (w:World):Prop:=Kb w 0 #[.int .u32 1779033703,.int .u32 3144134277,.int .u32 1013904242,.int .u32 2773480762,.int .u32 1359893119,.int .u32 2600822924,.int .u32 528734635,.int .u32 1541459225]
theorem snd_end1 {k:Ky} (h1:decide (k.d<0)=true):false=fC k:=by
  have:=of_decide_eq_true h1
  unfold fC
  rw [decide_eq_false (show ¬ 0≤k.d by omega)];rfl
theorem snd_end2 {k:Ky} (_:decide (k.d<0)=false) (h2:decide (8<k.d)=true):false=fC k:=by
  have:=of_decide_eq_true h2
  unfold fC
  rw [decide_eq_false (show ¬ k.d≤8 by omega),Bool.false_and,Bool.and_false]
theorem snd_end3 {k:Ky} (_:decide (k.d<0)=false) (_:decide (8<k.d)=false) (h3:iY k.p=false):false=fC k:=by
  unfold fC
  rw [h3,Bool.false_and,Bool.and_false,Bool.and_false]
theorem snd_mid {k:Ky} (h1:decide (k.d<0)=false) (h2:decide (8<k.d)=false) (h3:iY k.p=true):fC k=(decide (k.s=0)||(decide (iW k.s=0)&&decide (dK k.s=k.p))):=by
  have:=of_decide_eq_false h1
  have:=of_decide_eq_false h2
  unfold fC
  rw [decide_eq_true (show 0≤k.d by omega),decide_eq_true (show k.d≤8 by omega),h3];rfl
theorem snd_ok4 {k:Ky} (h1:decide (k.d<0)=false) (h2:decide (8<k.d)=false) (h3:iY k.p=true) (h4:decide (k.s=0)=true):true=fC k:=by
  rw [snd_mid h1 h2 h3,h4];rfl
theorem snd_ok5 {k:Ky} (h1:decide (k.d<0)=false) (h2:decide (8<k.d)=false) (h3:iY k.p=true) (h4:decide (k.s=0)=false) (h5:(iW k.s==0)=true):decide (dK k.s=k.p)=fC k:=by
  have h:iW k.s=0:=by simpa using h5
  rw [snd_mid h1 h2 h3,h4,decide_eq_true h];rfl
theorem snd_end5 {k:Ky} (h1:decide (k.d<0)=false) (h2:decide (8<k.d)=false) (h3:iY k.p=true) (h4:decide (k.s=0)=false) (h5:(iW k.s==0)=false):false=fC k:=by
  have h: ¬ iW k.s=0:=by simpa using h5
  rw [snd_mid h1 h2 h3,h4,decide_eq_false h];rfl
theorem xQ {x y:Int} (h:(x==y)=true):x=y:=by simpa using h
theorem kR {x y:Int} (h:(x==y)=false):x≠y:=by simpa using h
def nI (ps:List Nat):List Int:=ps.map fun n=>((n:Nat):Int)
theorem fZ (ps:List Nat):(nI ps).length=ps.length:=List.length_map _
theorem yQ (ps:List Nat) (j:Nat):gI (nI ps) j=((ps.getD j 0:Nat):Int):=by
  unfold gI nI
  rw [List.getD_eq_getElem?_getD,List.getD_eq_getElem?_getD,List.getElem?_map]
  cases ps[j]? <;> rfl
theorem rX {ps:List Nat} {j:Nat} (h:j<ps.length):ps.drop j=ps.getD j 0::ps.drop (j+1):=by
  rw [List.drop_eq_getElem_cons h,List.getD_eq_getElem?_getD,List.getElem?_eq_getElem h];rfl
theorem neqH (A B:Nat) (h1:A<M) (h2:B<M) (w:World):(binOp .neq 47 (.agg (hB A)) (.agg (hB B))).run Tryz.prog w=.ok (.bool (!decide (A=B))) w:=by
  rw [zU (n:=32) (e:=5) Tryz.underlying47 Tryz.underlying5 (by kernel_rfl) (nR A) (nR B) _ _ (hB_get A) (hB_get B) w]
  rw [decide_eq_decide.2 (byt_inj h1 h2)]
def kM (s p c:Nat) (d i n:Int) (x y:Value):Array Value:=cU s++cU p++hB c++ #[.int .i64 d,.int .u32 i,.int .u32 n,x,y]
def iC (kd m nu:Int) (h:Nat) (x:Value):Array Value:= #[.int .i64 kd,.int .i64 m,.int .u32 nu]++hB h++ #[x]
def dO.row (p:dO):Array Value:=kM p.k.s p.k.p p.k.c p.k.d ((p.k.i:Nat):Int) ((p.k.n:Nat):Int) (.slice p.pa (nI p.ps).length p.pc) (.bool p.wd)
def bW.row (t:bW):Array Value:=iC t.kd t.m ((t.nu:Nat):Int) t.h (.slice t.ka t.ks.length t.kc)
theorem dO.row_len (p:dO):p.row.toList.length=45:=by simp [dO.row,kM,cU,yV]
theorem bW.row_len (t:bW):t.row.toList.length=36:=by simp [bW.row,iC,yV]
def rng (z:Int):Prop:= -9223372036854775808≤z∧z<9223372036854775808
theorem lY {z:Int} (h: -9223372036854775808≤z∧z<9223372036854775808):rng z:=h
theorem rng_nat {n:Nat} (h:n<1000000):rng ((n:Nat):Int):=by unfold rng;omega
structure dO.Ok (p:dO):Prop where
  k:p.k.Ok
  d:rng p.k.d
  ps:∀ i∈p.ps,i<4294967296
structure bW.Ok (t:bW):Prop where
  kd:rng t.kd
  m:rng t.m
  nu:t.nu<4294967296
  h:t.h<M
theorem dO.ok_d:(default:dO).Ok:=⟨Ky.z_ok,by unfold rng;exact ⟨by decide,by decide⟩,fun i hi=>absurd hi (by simp [default])⟩
theorem bW.ok_d:(default:bW).Ok:=⟨by unfold rng;exact ⟨by decide,by decide⟩,by unfold rng;exact ⟨by decide,by decide⟩,by decide,iL⟩
def gK (l:List dO) (i:Nat):dO:=l.getD i default
def gT (l:List bW) (i:Nat):bW:=l.getD i default
theorem getD_mem {α:Type} [Inhabited α] {l:List α} {i:Nat} (h:i<l.length):l.getD i default∈l:=by
  rw [List.getD_eq_getElem?_getD,List.getElem?_eq_getElem h]
  exact List.getElem_mem h
theorem nU {l:List dO} {i:Nat} (h:i<l.length):gK l i∈l:=getD_mem h
theorem xAE {l:List bW} {i:Nat} (h:i<l.length):gT l i∈l:=getD_mem h
def mP (ts:List bW):Prop:=∀ t∈ts,t.Ok∧∀ p∈t.ks,p.Ok
def KsOk (ks:List dO):Prop:=∀ p∈ks,p.Ok
theorem wF {α:Type} [Inhabited α] {q:α→Prop} {l:List α} (h:∀ x∈l,q x) (h0:q default) (i:Nat):q (l.getD i default):=by
  rw [List.getD_eq_getElem?_getD]
  cases e:l[i]? with
  | none=>exact h0
  | some x=>exact h x (List.mem_of_getElem? e)
theorem KsOk.gK1 {ks:List dO} (h:KsOk ks) (j:Nat):(gK ks j).Ok:=wF h dO.ok_d j
theorem mP.gT {ts:List bW} (h:mP ts) (i:Nat):(gT ts i).Ok:=(wF (q:=fun t:bW=>t.Ok∧∀ p∈t.ks,p.Ok) h ⟨bW.ok_d,fun p hp=>absurd hp (by simp [default])⟩ i).1
theorem mP.gK {ts:List bW} (h:mP ts) (i j:Nat):(gK (Go.Proofs.YtegagmoldjiaaaaGreatDoor.gT ts i).ks j).Ok:=KsOk.gK1 (wF (q:=fun t:bW=>t.Ok∧∀ p∈t.ks,p.Ok) h ⟨bW.ok_d,fun p hp=>absurd hp (by simp [default])⟩ i).2 j
section
variable {α : Type} {f : α → List Value} {n : Nat}
theorem yB (hf:∀ x,(f x).length=n):∀ l:List α,(l.flatMap f).length=l.length*n
  | []=>by simp
  | x :: r => by
    rw [List.flatMap_cons,List.length_append,hf,yB hf r,List.length_cons,Nat.add_mul,Nat.one_mul,Nat.add_comm]
theorem xBA (hf:∀ x,(f x).length=n) [Inhabited α]:∀ (l:List α) (i j:Nat),i<l.length→j<n→(l.flatMap f)[i*n+j]? = (f (l.getD i default))[j]?
  | [],i,_,h,_=>absurd h (by simp)
  | x :: r, 0, j, _, hj => by
    rw [List.flatMap_cons,Nat.zero_mul,Nat.zero_add,List.getElem?_append_left (by rw [hf];exact hj)]
    rfl
  | x :: r, i + 1, j, h, hj => by
    rw [List.flatMap_cons,List.getElem?_append_right (by rw [hf,Nat.add_mul,Nat.one_mul];omega),hf,show (i+1)*n+j-n=i*n+j by rw [Nat.add_mul,Nat.one_mul];omega,xBA hf r i j (by simpa using h) hj]
    rfl
end
structure oG (w:World) (a:Option Addr) (c:Nat) (l:List dO):Prop where
  le:l.length≤c
  max:l.length≤1000000
  rows:Rs w a (l.flatMap fun p=>p.row.toList)
  sub:∀ p∈l,Is w .u32 p.pa p.pc (nI p.ps)
  ok:∀ p∈l,p.Ok
structure bM (w:World) (a:Option Addr) (c:Nat) (l:List bW):Prop where
  le:l.length≤c
  max:l.length≤1000000
  rows:Rs w a (l.flatMap fun t=>t.row.toList)
  sub:∀ t∈l,oG w t.ka t.kc t.ks
  ok:∀ t∈l,t.Ok
theorem bM.oks {w:World} {a:Option Addr} {c:Nat} {l:List bW} (h:bM w a c l):mP l:=fun t ht=>⟨h.ok t ht,(h.sub t ht).ok⟩
theorem mP.klen {ts:List bW} (_:mP ts) {w:World} {a:Option Addr} {c:Nat} (h:bM w a c ts) (i:Nat):(Go.Proofs.YtegagmoldjiaaaaGreatDoor.gT ts i).ks.length≤1000000 :=
  wF (q:=fun t:bW=>t.ks.length≤1000000) (fun t ht=>(h.sub t ht).max) (by decide) i
theorem oG.nil {w:World} {a:Option Addr} {c:Nat}:oG w a c []:=⟨by simp,by simp,Or.inl rfl,by simp,by simp⟩
theorem bM.nil {w:World} {a:Option Addr} {c:Nat}:bM w a c []:=⟨by simp,by simp,Or.inl rfl,by simp,by simp⟩
theorem uT {α:Type} {T:Nat→Prop} {F:α→World→Prop} {w:World}:∀ {l:List α},(∀ x∈l,dL T (F x) w)→dL T (fun w=>∀ x∈l,F x w) w
  | [],_=>dB (fun _ x hx=>absurd hx (by simp))
  | x :: r, h => ((h x List.mem_cons_self).and (uT (l := r) (fun y hy => h y (List.mem_cons_of_mem _ hy)))).mono (fun _ hh y hy => by
    rcases List.mem_cons.1 hy with rfl | hy
    · exact hh.1
    · exact hh.2 y hy)
theorem oG.mkP {T:Nat→Prop} {w:World} {a:Option Addr} {c:Nat} {l:List dO} (hle:l.length≤c) (hmax:l.length≤1000000) (hr:dL T (fun w=>Rs w a (l.flatMap fun p=>p.row.toList)) w) (hs:∀ p∈l,dL T (fun w=>Is w .u32 p.pa p.pc (nI p.ps)) w) (ok:∀ p∈l,p.Ok):dL T (fun w=>oG w a c l) w :=
  (hr.and (uT hs)).mono (fun _ h=>⟨hle,hmax,h.1,h.2,ok⟩)
theorem bM.mkP {T:Nat→Prop} {w:World} {a:Option Addr} {c:Nat} {l:List bW} (hle:l.length≤c) (hmax:l.length≤1000000) (hr:dL T (fun w=>Rs w a (l.flatMap fun p=>p.row.toList)) w) (hs:∀ t∈l,dL T (fun w=>oG w t.ka t.kc t.ks) w) (ok:∀ t∈l,t.Ok):dL T (fun w=>bM w a c l) w :=
  (hr.and (uT hs)).mono (fun _ h=>⟨hle,hmax,h.1,h.2,ok⟩)
theorem xBC {a:Option Addr} {n:Nat}:Apart (fun _=>False) a n:=fun _ _ _=>id
theorem oG.pers0 {w:World} {a:Option Addr} {c:Nat} {l:List dO} (h:oG w a c l):dL (fun _=>False) (fun w=>oG w a c l) w :=
  oG.mkP h.le h.max (h.rows.pers xBC) (fun p hp=>(h.sub p hp).pers0) h.ok
theorem bM.pers0 {w:World} {a:Option Addr} {c:Nat} {l:List bW} (h:bM w a c l):dL (fun _=>False) (fun w=>bM w a c l) w :=
  bM.mkP h.le h.max (h.rows.pers xBC) (fun t ht=>(h.sub t ht).pers0) h.ok
section
variable {P : Program} {t e : TypeId}
theorem Rs.some {w:World} {a:Option Addr} {vs:List Value} (h:Rs w a vs) {i:Nat} (hi:i<vs.length):∃ p,a=.some p∧∀ i v,vs[i]? = .some v→w.cell? (p.add i)=.some v:=by
  rcases h with rfl | h
  · simp at hi
  · exact h
theorem adr_add (p:Addr) (k o:Nat):fK (some p) (k+o)=some ((p.add k).add o):=by
  unfold fK
  rw [Option.map_some,Addr.add_add]
theorem idx_rs (ht:P.underlying t=some (.slice e)) {sz:Nat} (hs:∀ w,(sizeOf e).run P w=.ok sz w) {w:World} {a:Option Addr} {c m:Nat} {vs:List Value} {k:IntKind} {z:Int} {j:Nat} (hr:Rs w a vs) (hv:0<vs.length) (hz:z=(j:Int)) (hj:j<m) :
    (do pure (Next.value (← Instr.indexAt t (.slice a m c) (.int k z))):Sem Next).run P w=.ok (.value (.pointer (fK a (j*sz)))) w:=by
  subst hz
  obtain ⟨p,rfl,_⟩:=hr.some hv
  have hs:=hs w
  simp [Instr.indexAt,asIntOf,Sem.run_bind,run_underlying ht,hj,hs,fK]
theorem uH {s ft:TypeId} {fs:Array Field} {f:Nat} {fd:Field} {o n:Nat} (hu:P.underlying s=some (.struct fs)) (hf:fs[f]? = some fd) (hft:fd.type=ft) (ho:fd.offset=o) (hs:∀ w,(sizeOf ft).run P w=.ok (n+1) w) {w:World} {a:Option Addr} {vs:List Value} {k:Nat} (hr:Rs w a vs) (hv:0<vs.length) :
    (do pure (Next.value (← Instr.fieldAt s (.pointer (fK a k)) f)):Sem Next).run P w=.ok (.value (.pointer (fK a (k+o)))) w:=by
  subst hft ho
  obtain ⟨p,rfl,_⟩:=hr.some hv
  have hs:=hs w
  rw [adr_add]
  simp [Instr.fieldAt,Instr.sureAddr,fieldPlace,Sem.run_bind,run_underlying hu,hf,hs,fK]
theorem ld_rs1 {w:World} {a:Option Addr} {vs:List Value} {k:Nat} {v:Value} (ha:∀ w,(isAgg e).run P w=.ok false w) (hr:Rs w a vs) (hv:vs[k]? = some v) :
    (do pure (Next.value (← Instr.loadAt e (.pointer (fK a k)))):Sem Next).run P w=.ok (.value v) w:=by
  obtain ⟨p,rfl,hp⟩:=hr.some (List.getElem?_eq_some_iff.1 hv).1
  have hp:=hp k v hv
  simp only [fK,Option.map_some,Instr.loadAt,Instr.sureAddr,loadVar,Sem.run_bind,Sem.run_pure,Result.andThen_ok,ha,Bool.false_eq_true,if_false,load,Sem.run,hp]
theorem pG {w:World} {a:Option Addr} {vs us:List Value} {k n:Nat} (ha:∀ w,(isAgg e).run P w=.ok true w) (hs:∀ w,(sizeOf e).run P w=.ok n w) (hr:Rs w a vs) (hn:us.length=n) (h0:0<n) (hv:∀ j,j<n→vs[k+j]? = us[j]?) :
    (do pure (Next.value (← Instr.loadAt e (.pointer (fK a k)))):Sem Next).run P w=.ok (.value (.agg us.toArray)) w:=by
  have hlt:k<vs.length:=by
    have h1:=hv 0 h0
    rw [List.getElem?_eq_getElem (show 0<us.length by omega)] at h1
    have:=(List.getElem?_eq_some_iff.1 h1).1
    omega
  obtain ⟨p,rfl,hp⟩:=hr.some hlt
  have hl:=run_loadCells_list (P:=P) w (p.add k) us (fun j v hj=>by
    rw [Addr.add_add]
    have hj':j<n:=by rw [← hn];exact (List.getElem?_eq_some_iff.1 hj).1
    exact hp _ _ ((hv j hj').trans hj))
  rw [hn] at hl
  simp only [fK,Option.map_some,Instr.loadAt,Instr.sureAddr,loadVar,Sem.run_bind,Sem.run_pure,Result.andThen_ok,ha,if_true,hs,hl]
end
section
variable {P : Program} {t e : TypeId} {w : World} {a : Option Addr} {c : Nat}
theorem bM.pos {ts:List bW} (h:bM w a c ts) {i:Nat} (hi:i<ts.length):Rs w a (ts.flatMap fun t=>t.row.toList)∧0<(ts.flatMap fun t=>t.row.toList).length:=⟨h.rows,by rw [yB bW.row_len];omega⟩
theorem oG.pos {ks:List dO} (h:oG w a c ks) {i:Nat} (hi:i<ks.length):Rs w a (ks.flatMap fun t=>t.row.toList)∧0<(ks.flatMap fun t=>t.row.toList).length:=⟨h.rows,by rw [yB dO.row_len];omega⟩
theorem bM.idx {ts:List bW} (ht:P.underlying t=some (.slice e)) (hs:∀ w,(sizeOf e).run P w=.ok 36 w) {m:Nat} {k:IntKind} {z:Int} {j:Nat} (h:bM w a c ts) (hm:m=ts.length) (hz:z=(j:Int)) (hj:j<ts.length) :
    (do pure (Next.value (← Instr.indexAt t (.slice a m c) (.int k z))):Sem Next).run P w=.ok (.value (.pointer (fK a (j*36)))) w:=idx_rs ht hs (h.pos hj).1 (h.pos hj).2 hz (by omega)
theorem oG.idx {ks:List dO} (ht:P.underlying t=some (.slice e)) (hs:∀ w,(sizeOf e).run P w=.ok 45 w) {m:Nat} {k:IntKind} {z:Int} {j:Nat} (h:oG w a c ks) (hm:m=ks.length) (hz:z=(j:Int)) (hj:j<ks.length) :
    (do pure (Next.value (← Instr.indexAt t (.slice a m c) (.int k z))):Sem Next).run P w=.ok (.value (.pointer (fK a (j*45)))) w:=idx_rs ht hs (h.pos hj).1 (h.pos hj).2 hz (by omega)
theorem bM.cell {ts:List bW} {i j:Nat} {v:Value} (hi:i<ts.length) (hj:j<36) (hv:(gT ts i).row[j]? = some v):(ts.flatMap fun t=>t.row.toList)[i*36+j]? = some v:=by
  rw [xBA bW.row_len ts i j hi hj,Array.getElem?_toList];exact hv
theorem oG.cell {ks:List dO} {i j:Nat} {v:Value} (hi:i<ks.length) (hj:j<45) (hv:(gK ks i).row[j]? = some v):(ks.flatMap fun t=>t.row.toList)[i*45+j]? = some v:=by
  rw [xBA dO.row_len ks i j hi hj,Array.getElem?_toList];exact hv
theorem bM.ld {ts:List bW} {i j:Nat} {v:Value} (ha:∀ w,(isAgg e).run P w=.ok false w) (h:bM w a c ts) (hi:i<ts.length) (hj:j<36) (hv:(gT ts i).row[j]? = some v) :
    (do pure (Next.value (← Instr.loadAt e (.pointer (fK a (i*36+j))))):Sem Next).run P w=.ok (.value v) w:=ld_rs1 ha h.rows (bM.cell hi hj hv)
theorem oG.ld {ks:List dO} {i j:Nat} {v:Value} (ha:∀ w,(isAgg e).run P w=.ok false w) (h:oG w a c ks) (hi:i<ks.length) (hj:j<45) (hv:(gK ks i).row[j]? = some v) :
    (do pure (Next.value (← Instr.loadAt e (.pointer (fK a (i*45+j))))):Sem Next).run P w=.ok (.value v) w:=ld_rs1 ha h.rows (oG.cell hi hj hv)
theorem bM.ldA {ts:List bW} {i:Nat} (ha:∀ w,(isAgg e).run P w=.ok true w) (hs:∀ w,(sizeOf e).run P w=.ok 36 w) (h:bM w a c ts) (hi:i<ts.length) :
    (do pure (Next.value (← Instr.loadAt e (.pointer (fK a (i*36))))):Sem Next).run P w=.ok (.value (.agg (gT ts i).row)) w:=by
  have h1:=pG (us:=(gT ts i).row.toList) ha hs h.rows (bW.row_len _) (by decide) (fun j hj=>xBA bW.row_len ts i j hi hj)
  rw [Array.toArray_toList] at h1;exact h1
theorem oG.ldA {ks:List dO} {i:Nat} (ha:∀ w,(isAgg e).run P w=.ok true w) (hs:∀ w,(sizeOf e).run P w=.ok 45 w) (h:oG w a c ks) (hi:i<ks.length) :
    (do pure (Next.value (← Instr.loadAt e (.pointer (fK a (i*45))))):Sem Next).run P w=.ok (.value (.agg (gK ks i).row)) w:=by
  have h1:=pG (us:=(gK ks i).row.toList) ha hs h.rows (dO.row_len _) (by decide) (fun j hj=>xBA dO.row_len ks i j hi hj)
  rw [Array.toArray_toList] at h1;exact h1
end
def nO (k:Int):Int:=if k=1∨k=2 then 0 else if k=3∨k=4∨k=5 then 1 else if k=6 then 2 else -1
theorem zM (k:Int): -1≤nO k∧nO k≤2:=by unfold nO;split<;>(try split)<;>(try split)<;>decide
def vG:Int→List bW→Bool
  | m,[]=>decide (m=0)
  | m,t::r=>if m=0∨nO t.kd<0 then false else vG (m+(nO t.kd-1)) r
def fdN (kd m:Int) (nu h n:Nat):Bool :=
  if kd≠2∧m≠0 then false else if (kd≠3∧kd≠4)∧nu≠0 then false else if kd≠5∧h≠0 then false else
  if kd=1 then decide (n=1) else if kd=2 then decide (1≤n∧n≤15∧1≤m∧m≤(n:Int)) else decide (n=0)
def bW.fd (t:bW):Bool:=fdN t.kd t.m t.nu t.h t.ks.length
def dO.w1 (p:dO):Nat:=if p.wd=true then 1 else 0
def dO.vp (p:dO):Bool:=decide (p.ps.length≤8)&&(fC p.k&&(decide (p.k.d+p.ps.length+p.w1≤8)&&(!p.ps.any hdB||decide (p.k.s≠0))))
def vkB (ks:List dO):Bool:=ks.all dO.vp
def bW.vk (t:bW):Bool:=vkB t.ks
def xW (ts:List bW):Bool:=decide (1≤ts.length∧ts.length≤8)&&(vG 1 ts&&(ts.all bW.fd&&ts.all bW.vk))
def rgK (ks:List dO):Bool:=ks.any dO.wd
def bW.rg (t:bW):Bool:=rgK t.ks
section
variable {α : Type} [Inhabited α] {f : α → Bool} {l : List α} {i : Nat}
theorem zO (h:i<l.length):l.drop i=l.getD i default::l.drop (i+1):=by
  rw [List.drop_eq_getElem_cons h,List.getD_eq_getElem?_getD,List.getElem?_eq_getElem h];rfl
theorem sF (h:i<l.length) (hf:f (l.getD i default)=true) (hr:(l.drop i).all f=l.all f):(l.drop (i+1)).all f=l.all f:=by
  rw [zO h,List.all_cons,hf,Bool.true_and] at hr;exact hr
theorem sZ (h:i<l.length) (hf:f (l.getD i default)=false) (hr:(l.drop i).all f=l.all f):l.all f=false:=by
  rw [zO h,List.all_cons,hf,Bool.false_and] at hr;exact hr.symm
end
theorem xH {α:Type} {f:α→Bool} {l:List α} {i:Nat} (h:l.length≤i) (hr:(l.drop i).all f=l.all f):l.all f=true:=by
  rw [List.drop_eq_nil_of_le h] at hr;exact hr.symm
theorem xBF {α:Type} {f:α→Bool} {l:List α} {i:Nat} (h:l.length≤i) (hr:(l.drop i).any f=l.any f):l.any f=false:=by
  rw [List.drop_eq_nil_of_le h] at hr;exact hr.symm
theorem wh_next {ts:List bW} {i:Nat} {m:Int} (h:i<ts.length) (h0:m≠0) (hk: ¬ nO (gT ts i).kd<0) (hr:vG m (ts.drop i)=vG 1 ts):vG (m+(nO (gT ts i).kd-1)) (ts.drop (i+1))=vG 1 ts:=by
  rw [zO h] at hr
  simp only [vG] at hr
  rw [if_neg (by intro q;rcases q with q | q;exact h0 q;exact hk q)] at hr
  exact hr
theorem wh_stop {ts:List bW} {i:Nat} {m:Int} (h:i<ts.length) (hk:m=0∨nO (gT ts i).kd<0) (hr:vG m (ts.drop i)=vG 1 ts):vG 1 ts=false:=by
  rw [zO h] at hr
  simp only [vG] at hr
  have hk':m=0∨nO (ts.getD i default).kd<0:=hk
  rw [if_pos hk'] at hr
  exact hr.symm
theorem wh_end {ts:List bW} {i:Nat} {m:Int} (h:ts.length≤i) (hr:vG m (ts.drop i)=vG 1 ts):decide (m=0)=vG 1 ts:=by
  rw [List.drop_eq_nil_of_le h] at hr;exact hr
theorem beq_dec (m:Int):(m==0)=decide (m=0):=by rw [Bool.eq_iff_iff,beq_iff_eq,decide_eq_true_eq]
theorem kd_1 {z:Int} (h:z=1∨z=2):0=nO z:=by unfold nO;rw [if_pos h]
theorem kd_3 {z:Int} (h:z=3∨z=4∨z=5):1=nO z:=by unfold nO;rw [if_neg (by omega),if_pos h]
theorem kd_6 {z:Int} (h:z=6):2=nO z:=by unfold nO;rw [if_neg (by omega),if_neg (by omega),if_pos h]
theorem kd_0 {z:Int} (h: ¬ (1≤z∧z≤6)): -1=nO z:=by unfold nO;rw [if_neg (by omega),if_neg (by omega),if_neg (by omega)]
def o7 (kd m:Int) (nu h n:Nat):Prop:=(kd=2∨m=0)∧(kd=3∨kd=4∨nu=0)∧(kd=5∨h=0)∧(kd=1→n=1)∧(kd=2→1≤n∧n≤15∧1≤m∧m≤(n:Int))∧(kd≠1→kd≠2→n=0)
theorem xAT (kd m : Int) (nu h n : Nat) : fdN kd m nu h n = true ↔ o7 kd m nu h n := by
  unfold fdN o7
  split
  · simp;omega
  · split
    · simp;omega
    · split
      · simp;omega
      · split
        · simp;omega
        · split
          · simp;omega
          · simp;omega
section
variable {kd m : Int} {nu h n : Nat}
theorem qU (q: ¬ o7 kd m nu h n):false=fdN kd m nu h n:=(Bool.eq_false_iff.2 (fun e=>q ((xAT kd m nu h n).1 e))).symm
theorem fd_d {p:Prop} [Decidable p] (q:p↔o7 kd m nu h n):decide p=fdN kd m nu h n:=by rw [Bool.eq_iff_iff,decide_eq_true_eq,xAT];exact q
theorem fd_b {x y:Int} (q:x=y↔o7 kd m nu h n):(x==y)=fdN kd m nu h n:=by rw [Bool.eq_iff_iff,beq_iff_eq,xAT];exact q
end
theorem beq_f {x y:Int} (h:x≠y):(x==y)=false:=by simpa using h
theorem iK {x y:Int} (h:(x != y)=true):x≠y:=by simpa using h
theorem dD {x y:Int} (h:(x != y)=false):x=y:=by simpa using h
def shB (ts:List bW):Bool:=vG 1 ts&&(decide (1≤ts.length)&&decide (ts.length≤8))
section
variable {ts : List bW} {m : Int} (hw : decide (m = 0) = vG 1 ts)
include hw
theorem sh_0 (h:(m==0)=false):false=shB ts:=by unfold shB;rw [← hw,← beq_dec,h];rfl
theorem sh_2 (h:(m==0)=true) (h1:decide (1≤(((ts).length:Nat):Int))=true):decide ((((ts).length:Nat):Int)≤8)=shB ts:=by
  have:=of_decide_eq_true h1
  unfold shB;rw [← hw,← beq_dec,h,decide_eq_true (show 1≤ts.length by omega),Bool.true_and,Bool.true_and,decide_eq_decide];omega
end
theorem sh_1 {ts:List bW} {m:Int} (_:decide (m=0)=vG 1 ts) (_:(m==0)=true) (h1:decide (1≤(((ts).length:Nat):Int))=false):false=shB ts:=by
  have:=of_decide_eq_false h1
  unfold shB;rw [decide_eq_false (show ¬ 1≤ts.length by omega),Bool.false_and,Bool.and_false]
theorem vl_a {ts:List bW} (h: ¬ (1≤ts.length∧ts.length≤8)):false=xW ts:=by unfold xW;rw [decide_eq_false h];rfl
theorem vl_b {ts:List bW} (h:vG 1 ts=false):false=xW ts:=by unfold xW;rw [h,Bool.false_and,Bool.and_false]
theorem vl_c {ts:List bW} (h:ts.all bW.fd=false):false=xW ts:=by unfold xW;rw [h,Bool.false_and,Bool.and_false,Bool.and_false]
theorem vl_d {ts:List bW} (h:ts.all bW.vk=false):false=xW ts:=by unfold xW;rw [h,Bool.and_false,Bool.and_false,Bool.and_false]
theorem vl_e {ts:List bW} (h1:1≤ts.length∧ts.length≤8) (h2:vG 1 ts=true) (h3:ts.all bW.fd=true) (h4:ts.all bW.vk=true):true=xW ts:=by unfold xW;rw [decide_eq_true h1,h2,h3,h4];rfl
theorem sh_no {ts:List bW} (h:shB ts=false):false=xW ts:=by
  unfold shB at h
  cases e:vG 1 ts
  · exact vl_b e
  · rw [e,Bool.true_and,← Bool.decide_and] at h;exact vl_a (of_decide_eq_false h)
theorem sh_yes {ts:List bW} (h:shB ts=true):(1≤ts.length∧ts.length≤8)∧vG 1 ts=true:=by
  unfold shB at h
  simp only [Bool.and_eq_true,decide_eq_true_eq] at h
  exact ⟨h.2,h.1⟩
theorem w1_t {p:dO} (h:p.wd=true):p.w1=1:=by unfold dO.w1;rw [if_pos h]
theorem w1_f {p:dO} (h:p.wd=false):p.w1=0:=by unfold dO.w1;rw [h];rfl
theorem vp_1 {p:dO} (h: ¬ p.ps.length≤8):false=p.vp:=by unfold dO.vp;rw [decide_eq_false h];rfl
theorem vp_2 {p:dO} (h:fC p.k=false):false=p.vp:=by unfold dO.vp;rw [h,Bool.false_and,Bool.and_false]
theorem vp_3 {p:dO} (h: ¬ p.k.d+p.ps.length+p.w1≤8):false=p.vp:=by unfold dO.vp;rw [decide_eq_false h,Bool.false_and,Bool.and_false,Bool.and_false]
theorem vp_4 {p:dO} (h:p.ps.any hdB=true) (hs:p.k.s=0):false=p.vp:=by unfold dO.vp;rw [h,decide_eq_false (not_not_intro hs),Bool.not_true,Bool.or_false,Bool.and_false,Bool.and_false,Bool.and_false]
theorem vp_5 {p:dO} (h1:p.ps.length≤8) (h2:fC p.k=true) (h3:p.k.d+p.ps.length+p.w1≤8) (h:p.ps.any hdB=false∨p.k.s≠0):true=p.vp:=by
  unfold dO.vp
  rw [decide_eq_true h1,h2,decide_eq_true h3]
  rcases h with h | h
  · rw [h];rfl
  · rw [decide_eq_true h,Bool.or_true];rfl
theorem hd_dec (x:Nat):decide (2147483648≤((x:Nat):Int))=hdB x:=by unfold hdB;rw [decide_eq_decide];omega
def ixA:List Nat→Nat→Int
  | [],_=> -1
  | x::r,i=>if hdB x=true then (i:Int) else ixA r (i+1)
theorem ixA_any:∀ (ps:List Nat) (i:Nat),decide (0≤ixA ps i)=ps.any hdB
  | [],_=>rfl
  | x :: r, i => by
    rw [ixA,List.any_cons]
    by_cases h:hdB x=true
    · rw [if_pos h,h,Bool.true_or];exact decide_eq_true (by omega)
    · rw [if_neg h,Bool.eq_false_iff.2 h,Bool.false_or];exact ixA_any r (i+1)
theorem ix_next {ps:List Nat} {i:Nat} (h:i<ps.length) (hf:hdB (ps.getD i 0)=false) (hr:ixA (ps.drop i) i=ixA ps 0):ixA (ps.drop (i+1)) (i+1)=ixA ps 0:=by
  rw [rX h,ixA,hf] at hr;exact hr
theorem ix_stop {ps:List Nat} {i:Nat} (h:i<ps.length) (hf:hdB (ps.getD i 0)=true) (hr:ixA (ps.drop i) i=ixA ps 0):(i:Int)=ixA ps 0:=by
  rw [rX h,ixA,hf] at hr;exact hr
theorem ix_end {ps:List Nat} {i:Nat} (h:ps.length≤i) (hr:ixA (ps.drop i) i=ixA ps 0): -1=ixA ps 0:=by
  rw [List.drop_eq_nil_of_le h] at hr;exact hr
theorem pa_next {ps:List Nat} {i:Nat} {f:Nat→Bool} (h:i<ps.length) (hf:f (ps.getD i 0)=false) (hr:(ps.drop i).any f=ps.any f):(ps.drop (i+1)).any f=ps.any f:=by
  rw [rX h,List.any_cons,hf,Bool.false_or] at hr;exact hr
theorem pa_stop {ps:List Nat} {i:Nat} {f:Nat→Bool} (h:i<ps.length) (hf:f (ps.getD i 0)=true) (hr:(ps.drop i).any f=ps.any f):ps.any f=true:=by
  rw [rX h,List.any_cons,hf,Bool.true_or] at hr;exact hr.symm
theorem all_endN {ps:List Nat} {i:Nat} {f:Nat→Bool} (h:ps.length≤i) (hr:(ps.drop i).any f=ps.any f):ps.any f=false:=xBF h hr
theorem any_and (ps:List Nat) (b:Bool):(ps.any fun x=>hdB x&&b)=(ps.any hdB&&b):=by
  induction ps with
  | nil=>rfl
  | cons x r ih=>rw [List.any_cons,List.any_cons,ih];cases hdB x<;>cases b<;>simp
def dO.hf (p:dO) (x:Nat):Bool:=hdB x&&decide (p.k.s=0)
theorem hf_a {p:dO} {x:Nat} (h:decide (2147483648≤((x:Nat):Int))=false):p.hf x=false:=by unfold dO.hf;rw [← hd_dec,h];rfl
theorem hf_b {p:dO} {x:Nat} (h:decide (p.k.s=0)=false):p.hf x=false:=by unfold dO.hf;rw [h,Bool.and_false]
theorem hf_c {p:dO} {x:Nat} (h:decide (2147483648≤((x:Nat):Int))=true) (h0:decide (p.k.s=0)=true):p.hf x=true:=by unfold dO.hf;rw [← hd_dec,h,h0];rfl
theorem vp_6 {p:dO} (h:p.ps.any p.hf=true):false=p.vp:=by
  rw [show p.ps.any p.hf=p.ps.any (fun x=>hdB x&&decide (p.k.s=0)) from rfl,any_and,Bool.and_eq_true] at h
  exact vp_4 h.1 (of_decide_eq_true h.2)
theorem vp_7 {p:dO} (h:p.ps.any p.hf=false):p.ps.any hdB=false∨p.k.s≠0:=by
  rw [show p.ps.any p.hf=p.ps.any (fun x=>hdB x&&decide (p.k.s=0)) from rfl,any_and,Bool.and_eq_false_iff] at h
  exact h.imp id of_decide_eq_false
def pV (ts:List bW):List Value:=ts.flatMap fun t=>t.row.toList
def kpR (ks:List dO):List Value:=ks.flatMap fun p=>p.row.toList
theorem tmR_len (ts:List bW):(pV ts).length=ts.length*36:=yB bW.row_len ts
theorem kpR_len (ks:List dO):(kpR ks).length=ks.length*45:=yB dO.row_len ks
theorem cU_one (s:Nat):∀ u∈(cU s).toList,u.oneCell'=true:=by
  intro u hu
  simp at hu
  rcases hu with rfl | rfl | rfl | rfl<;>rfl
theorem hB_oneL (h:Nat):∀ u∈(hB h).toList,u.oneCell'=true:=by
  intro u hu
  unfold hB at hu
  simp only [List.mem_map] at hu
  obtain ⟨i,_,rfl⟩:=hu
  rfl
theorem bW.row_one (t:bW):∀ u∈t.row.toList,u.oneCell'=true:=by
  intro u hu
  simp only [bW.row,iC,Array.toList_append,List.mem_append] at hu
  rcases hu with (hu | hu) | hu
  · simp at hu;rcases hu with rfl | rfl | rfl<;>rfl
  · exact hB_oneL _ u hu
  · simp at hu;rcases hu with rfl;rfl
theorem tmR_one (ts:List bW):∀ u∈pV ts,u.oneCell'=true:=by
  intro u hu
  obtain ⟨t,_,hu⟩:=List.mem_flatMap.1 hu
  exact t.row_one u hu
theorem bM.src {P : Program} {w : World} {a : Option Addr} {c : Nat} {ts : List bW} {tx e' : TypeId} (hk : P.underlying tx = some (.slice e')) (h : bM w a c ts) : Src P 36 tx (.slice a ts.length c) ts.length (pV ts) w := by
  cases a with
  | none =>
    have h0:ts=[]:=by
      rcases h.rows with h0 | ⟨p,hp,_⟩
      · have := congrArg List.length h0
        rw [yB bW.row_len] at this
        exact List.eq_nil_of_length_eq_zero (by simp only [List.length_nil] at this;omega)
      · exact absurd hp (by simp)
    subst h0
    exact Src.ofNil w hk c
  | some p =>
    refine Src.ofSlice w hk p ts.length c (pV ts) (tmR_len ts) ?_ (tmR_one ts)
    intro j u hu
    rcases h.rows with h0 | ⟨p',hp,hh⟩
    · rw [show pV ts=[] from h0] at hu;simp at hu
    · obtain rfl : p = p' := by simpa using hp
      exact hh j u hu
abbrev At (C:Array Value) (ts:List bW) (c:Nat):Prop:=Av C 36 ts.length (pV ts) c
theorem At.app {C:Array Value} {ts us:List bW} {c:Nat} (h:Av C 36 (ts.length+us.length) (pV ts++pV us) c):At C (ts++us) c:=by
  unfold At
  rw [List.length_append,show pV (ts++us)=pV ts++pV us from List.flatMap_append]
  exact h
theorem At.src {P:Program} {w:World} {g c:Nat} {C:Array Value} {ts:List bW} {T tx e':TypeId} {fr:Nat × Nat} (hk:P.underlying tx=some (.slice e')) (hb:w.heap[g]? = some (.cells C T fr)) (hA:At C ts c):Src P 36 tx (.slice (some ⟨g,0,none⟩) ts.length c) ts.length (pV ts) w:=by
  refine Src.ofSlice w hk ⟨g,0,none⟩ ts.length c (pV ts) (tmR_len ts) ?_ (tmR_one ts)
  intro j u hu
  rcases Rs.of_av hb hA with h0 | ⟨p',hp,hh⟩
  · rw [h0] at hu;simp at hu
  · obtain rfl : (⟨g, 0, none⟩ : Addr) = p' := by simpa using hp
    exact hh j u hu
theorem At.one (t:bW):At t.row [t] 1:=by
  have e:pV [t]=t.row.toList:=by simp [pV]
  refine ⟨?_,?_,Nat.le_refl _,?_⟩
  · rw [e,List.take_length]
  · rw [tmR_len]
  · have := t.row_len
    rw [Array.length_toList] at this
    exact this
theorem fm_set {α:Type} {f:α→List Value} {n:Nat} (hf:∀ x,(f x).length=n):∀ (l:List α) (i o:Nat) (x:α) (v:Value),i<l.length→o<n→(∀ y,l[i]? = some y→f x=(f y).set o v)→(l.set i x).flatMap f=(l.flatMap f).set (i*n+o) v
  | [],_,_,_,_,h,_,_=>absurd h (by simp)
  | y :: r, 0, o, x, v, _, ho, hx => by
    rw [List.set_cons_zero,List.flatMap_cons,List.flatMap_cons,Nat.zero_mul,Nat.zero_add,List.set_append_left _ _ (by rw [hf];exact ho),hx y rfl]
  | y :: r, i + 1, o, x, v, h, ho, hx => by
    rw [List.set_cons_succ,List.flatMap_cons,List.flatMap_cons,fm_set hf r i o x v (by simpa using h) ho (fun z hz=>hx z (by simpa using hz)),List.set_append_right _ _ (by rw [hf,Nat.add_mul,Nat.one_mul];omega),hf,show (i+1)*n+o-n=i*n+o by rw [Nat.add_mul,Nat.one_mul];omega]
theorem Av.set {C:Array Value} {sz n c j:Nat} {xs:List Value} {v:Value} (h:Av C sz n xs c):Av (C.setIfInBounds j v) sz n (xs.set j v) c:=by
  refine ⟨?_,by rw [List.length_set];exact h.len,h.le,by rw [Array.size_setIfInBounds];exact h.size⟩
  rw [List.length_set,Array.toList_setIfInBounds,List.take_set,h.hd]
theorem At.set {C:Array Value} {ts:List bW} {c j o:Nat} {v:Value} (t':bW) (h:At C ts c) (hj:j<ts.length) (ho:o<36) (hr:t'.row.toList=(gT ts j).row.toList.set o v):At (C.setIfInBounds (j*36+o) v) (ts.set j t') c:=by
  have e:pV (ts.set j t')=(pV ts).set (j*36+o) v:=fm_set bW.row_len ts j o t' v hj ho (fun y hy=>by
    rw [hr]
    have:gT ts j=y:=by unfold gT;rw [List.getD_eq_getElem?_getD,hy];rfl
    rw [this])
  unfold At
  rw [List.length_set,e]
  exact Av.set h
theorem At.get {C:Array Value} {ts:List bW} {c j o:Nat} {v:Value} (h:At C ts c) (hj:j<ts.length) (ho:o<36) (hv:(gT ts j).row[o]? = some v):C[j*36+o]? = some v:=by
  have h1:=bM.cell hj ho hv
  have h2:=h.hd
  rw [show (ts.flatMap fun t=>t.row.toList)=pV ts from rfl,← h2,List.getElem?_take] at h1
  split at h1
  · simpa using h1
  · exact absurd h1 (by simp)
theorem At.size {C:Array Value} {ts:List bW} {c j o:Nat} (h:At C ts c) (hj:j<ts.length) (ho:o<36):j*36+o<C.size:=by
  have:=h.le;rw [Av.size h];omega
theorem rsP {T:Nat→Prop} {w0 w:World} {g sz n c:Nat} {C:Array Value} {e:TypeId} {fr:Nat × Nat} {xs:List Value} (hT:∀ b,T b→b<w0.heap.size) (hg:w0.heap.size≤g∧w.heap[g]? = some (.cells C e fr)) (hA:Av C sz n xs c):dL T (fun w=>Rs w (some ⟨g,0,none⟩) xs) w :=
  (Rs.of_av hg.2 hA).pers (fun p hp _ hx=>by
    obtain rfl:(⟨g,0,none⟩:Addr)=p:=by simpa using hp
    have h1:g<w0.heap.size:=hT _ hx
    have:=hg.1
    omega)
def SubT (ts ts':List bW):Prop:=∀ t'∈ts',t'.Ok∧(t'.ks=[]∨∃ t∈ts,t'.ka=t.ka∧t'.kc=t.kc∧t'.ks=t.ks)
theorem SubT.refl {ts:List bW} (h:∀ t∈ts,t.Ok):SubT ts ts:=fun t ht=>⟨h t ht,Or.inr ⟨t,ht,rfl,rfl,rfl⟩⟩
theorem SubT.app {ts us vs:List bW} (h:SubT ts us) (h2:SubT ts vs):SubT ts (us++vs):=fun t ht=>(List.mem_append.1 ht).elim (h t) (h2 t)
theorem SubT.tail {ts us:List bW} (h:SubT ts us):SubT ts us.tail:=fun t ht=>h t (List.mem_of_mem_tail ht)
theorem SubT.set {ts us:List bW} {j:Nat} {t':bW} (h:SubT ts us) (ho:t'.Ok) (hk:t'.ks=[]∨∃ t∈ts,t'.ka=t.ka∧t'.kc=t.kc∧t'.ks=t.ks):SubT ts (us.set j t'):=fun t ht=>by
  rcases List.mem_or_eq_of_mem_set ht with h1 | rfl
  · exact h t h1
  · exact ⟨ho,hk⟩
theorem bM.tail {w:World} {a:Option Addr} {c:Nat} {ts:List bW} (h:bM w a c ts) (h0:0<ts.length):bM w (if c=1 then a else a.map (·.add (1*36))) (c-1) ts.tail:=by
  have hle:=h.le
  refine ⟨by rw [List.length_tail];omega,by rw [List.length_tail];have:=h.max;omega,?_,fun t ht=>h.sub t (List.mem_of_mem_tail ht),fun t ht=>h.ok t (List.mem_of_mem_tail ht)⟩
  by_cases hc:c=1
  · have : ts.tail = [] := List.eq_nil_of_length_eq_zero (by rw [List.length_tail]; omega)
    rw [this];exact Or.inl rfl
  · rw [if_neg hc]
    have e:(ts.tail.flatMap fun t=>t.row.toList)=(ts.flatMap fun t=>t.row.toList).drop 36:=by
      cases ts with
      | nil=>simp at h0
      | cons t r=>rw [List.tail_cons,List.flatMap_cons,List.drop_append_of_le_length (by rw [bW.row_len];exact Nat.le_refl _),List.drop_of_length_le (by rw [bW.row_len];exact Nat.le_refl _),List.nil_append]
    rw [e]
    exact h.rows.drop 36
def rQ:Value:=.agg #[.int .i64 0,.int .i64 0,.int .u32 0,.int .u8 0,.int .u8 0,.int .u8 0,.int .u8 0,.int .u8 0,.int .u8 0,.int .u8 0,.int .u8 0,.int .u8 0,.int .u8 0,.int .u8 0,.int .u8 0,.int .u8 0,.int .u8 0,.int .u8 0,.int .u8 0,.int .u8 0,.int .u8 0,.int .u8 0,.int .u8 0,.int .u8 0,.int .u8 0,.int .u8 0,.int .u8 0,.int .u8 0,.int .u8 0,.int .u8 0,.int .u8 0,.int .u8 0,.int .u8 0,.int .u8 0,.int .u8 0,.slice none 0 0]
def SoftK (p:dO):Prop:=fC p.k=true∧∀ i∈p.ps,hdB i=false
def SoftL (t:bW):Prop:=t.ks.length≤2∧(t.kd=2→t.ks.length=2)∧∀ p∈t.ks,SoftK p
def Soft (ts:List bW):Prop:=∀ t∈ts,SoftL t
def TmN (w:World) (a:Option Addr) (c:Nat) (ts:List bW):Prop:=bM w a c ts∧0<ts.length∧ts.length≤8∧Soft ts
theorem TmN.pers0 {w:World} {a:Option Addr} {c:Nat} {ts:List bW} (h:TmN w a c ts):dL (fun _=>False) (fun w=>TmN w a c ts) w:=h.1.pers0.mono (fun _ h1=>⟨h1,h.2⟩)
def ot (ρ:Nat→bH) (i:Nat):List bW:=(ρ i).t
section
variable {P : Program} {ops : Array Oper} {D : List Nat} {l : List (Nat × Value)} {w0 : Base} {h : List (Nat × Obj)} {F0 : World → Prop}
variable {vals : (Nat → bH) → Nat → Value} {effs : (Nat → bH) → Nat → Eff} {fact : (Nat → bH) → Nat → World → Prop}
theorem o_callGT (i:Nat) (f:FuncId) (args:(Nat→bH)→Array Value)
    (hc:∀ ρ z,eU P ops D l (vals ρ) i z=some (.enter f (args ρ),[],[]))
    (he:∀ ρ r,effs (upd ρ i r) i={})
    (hf:∀ ρ T w,Given ops D w0 h F0 effs fact i ρ T w→Calls P f (args ρ) w (fun e w'=>Below w.heap.size w w'∧∃ r,e=.returned (vals (upd ρ i r) i)∧dL T (fact (upd ρ i r) i) w')):jV P ops D l w0 h F0 vals effs fact i:=by
  have key:∀ ρ z,((ops[i]?).isSome=true∧fM (vals ρ) (opAt ops i)=true)∧kH P (execOp (dC ops D l (vals ρ) i) (opAt ops i)) [] [] z=some (.enter f (args ρ),[],[]):=by
    intro ρ z
    have h1:=hc ρ z
    unfold eU at h1
    split at h1
    · rename_i hb
      simp only [Bool.and_eq_true] at hb
      exact ⟨hb,h1⟩
    · exact absurd h1 (by simp)
  intro o ho ρ T w hG
  have hoe:=eY (key ρ []).1.1
  rw [ho] at hoe
  obtain rfl:o=opAt ops i:=by simpa using hoe
  rw [if_pos (key ρ []).1.2]
  obtain ⟨w1,h1,_,_,h4,_,_⟩:=kF (P:=P) (execOp (dC ops D l (vals ρ) i) (opAt ops i)) [] [] w _ _ _ (by intro y hy;simp at hy) (by simp) ((key ρ _).2) trivial
  have hb:Below w.heap.size w w1:=⟨h4.os,h4.tape,h4.output,h4.size,fun k hk=>h4.block k hk (by simp)⟩
  have hheap:∀ b,b<w.heap.size→w1.heap[b]? = w.heap[b]? := fun b hb'=>hb.block b hb'
  have hG1:Given ops D w0 h F0 effs fact i ρ T w1:=by
    have tr:∀ {F:World→Prop},dL T F w→dL T F w1:=by
      rintro F ⟨S,s1,s2⟩
      refine ⟨S,fun b hb'=>⟨Nat.lt_of_lt_of_le (s1 b hb').1 hb.size,(s1 b hb').2⟩,fun w' hw=>s2 w' (fun b hb'=>?_)⟩
      rw [hw b hb',hheap b (s1 b hb').1]
    refine ⟨fun b hb'=>Nat.lt_of_lt_of_le (hG.lt b hb') hb.size,hG.below.trans (nN.of_below hb),fun n x hn hk=>?_,hG.ne,tr hG.facts0,fun j hj=>tr (hG.facts j hj)⟩
    have:=hG.block n x hn hk
    refine ⟨?_,this.2⟩
    rw [hheap _ (hG.lt _ this.2.1)]
    exact this.1
  unfold opv
  rw [h1]
  refine (hf ρ T w1 hG1).mono (fun e w2 hew=>?_)
  obtain ⟨hb2,r,rfl,hp⟩:=hew
  show After ops D h vals effs fact i ρ T w _ w2
  refine ⟨r,rfl,nN.of_below (hb.trans (hb2.mono hb.size)),?_,?_,?_,?_⟩
  · rw [he];intro n q hm;simp at hm
  · rw [he];intro k b q hk;simp at hk
  · rw [he];simp
  · rw [he]
    refine hp.sub (fun b hbT=>?_)
    rcases hbT with hbT | hbT
    · exact hbT
    · simp at hbT
theorem o_callT (i:Nat) (f:FuncId) (args:(Nat→bH)→Array Value) (v:(Nat→bH)→Option Addr→Nat→List bW→Value)
    (hf:∀ ρ T w,Given ops D w0 h F0 effs fact i ρ T w→Calls P f (args ρ) w (fun e w'=>Below w.heap.size w w'∧∃ a c ts,e=.returned (v ρ a c ts)∧dL T (fun w=>bM w a c ts) w'))
    (hc:∀ ρ z,eU P ops D l (vals ρ) i z=some (.enter f (args ρ),[],[]):=by intros;kernel_rfl)
    (hv:∀ ρ r,vals (upd ρ i r) i=v ρ r.a (r.n.headD 0) r.t:=by intros;kernel_rfl) (he:∀ ρ r,effs (upd ρ i r) i={}:=by intros;kernel_rfl)
    (ht:∀ ρ r,fact (upd ρ i r) i=(fun w=>bM w r.a (r.n.headD 0) r.t):=by intros;kernel_rfl):jV P ops D l w0 h F0 vals effs fact i:=by
  refine o_callGT i f args hc he (fun ρ T w hG=>(hf ρ T w hG).mono (fun e w' hew=>?_))
  obtain ⟨hb,a,c,ts,h1,h2⟩:=hew
  refine ⟨hb,{ n:=[c],a:=a,t:=ts},?_,?_⟩
  · rw [hv];exact h1
  · rw [ht];exact h2
theorem o_callWT (i:Nat) (ns:List Nat) (f:FuncId) (args:(Nat→bH)→Array Value) (v:(Nat→bH)→Option Addr→Nat→List bW→Value) (K:(Nat→bH)→List (Nat × Obj)) (K':(Nat→bH)→Nat→List (Nat × Obj))
    (hf:∀ ρ T w,Given ops D w0 h F0 effs fact i ρ T w→Knows (K ρ) w→Calls P f (args ρ) w (fun e w'=>∃ a c ts j,e=.returned (v ρ a c ts)∧nN (fun b=>b∈(K ρ).map (·.1)) w w'∧Knows (K' ρ j) w'∧dL (fun b=>b<w.heap.size) (fun w=>TmN w a c ts) w'))
    (hc:∀ ρ z,eU P ops D l (vals ρ) i z=some (.enter f (args ρ),[],[]):=by intros;kernel_rfl)
    (hv:∀ ρ r,vals (upd ρ i r) i=v ρ r.a (r.n.headD 0) r.t:=by intros;kernel_rfl) (he:∀ ρ r,effs (upd ρ i r) i={ puts:=ns.zip (K' ρ (r.n.tail.headD 0))}:=by intros;kernel_rfl)
    (hn:∀ ρ,dY ops D h (effs ρ) i ns=true:=by intros;kernel_rfl) (hk:∀ ρ,known ops D h (effs ρ) i ns=K ρ:=by intros;kernel_rfl) (hl:∀ ρ j,(K' ρ j).map (·.1)=(K ρ).map (·.1):=by intros;kernel_rfl)
    (ht:∀ ρ r,fact (upd ρ i r) i=(fun w=>TmN w r.a (r.n.headD 0) r.t):=by intros;kernel_rfl):jV P ops D l w0 h F0 vals effs fact i:=by
  refine y7 i ns f args K (fun ρ r=>K' ρ (r.n.tail.headD 0)) hc he hn hk (fun ρ r=>hl ρ _) (fun ρ T w hG hK=>(hf ρ T w hG hK).mono (fun e w' hew=>?_))
  obtain ⟨a,c,ts,j,h1,h2,h3,h4⟩:=hew
  refine ⟨h2,{ n:=[c,j],a:=a,t:=ts},?_,h3,?_⟩
  · rw [hv];exact h1
  · rw [ht];exact h4
theorem o_callWJ (i:Nat) (ns:List Nat) (f:FuncId) (args:(Nat→bH)→Array Value) (v:(Nat→bH)→Option Addr→Nat→Value) (ik:IntKind) (zs:(Nat→bH)→List Int) (K K':(Nat→bH)→List (Nat × Obj))
    (hf:∀ ρ T w,Given ops D w0 h F0 effs fact i ρ T w→Knows (K ρ) w→Calls P f (args ρ) w (fun e w'=>∃ a c,e=.returned (v ρ a c)∧nN (fun b=>b∈(K ρ).map (·.1)) w w'∧Knows (K' ρ) w'∧Fi w w' ik a c (zs ρ)))
    (hc:∀ ρ z,eU P ops D l (vals ρ) i z=some (.enter f (args ρ),[],[]):=by intros;kernel_rfl)
    (hv:∀ ρ r,vals (upd ρ i r) i=v ρ r.a (r.n.headD 0):=by intros;kernel_rfl) (he:∀ ρ r,effs (upd ρ i r) i={ puts:=ns.zip (K' ρ)}:=by intros;kernel_rfl)
    (hn:∀ ρ,dY ops D h (effs ρ) i ns=true:=by intros;kernel_rfl) (hk:∀ ρ,known ops D h (effs ρ) i ns=K ρ:=by intros;kernel_rfl) (hl:∀ ρ,(K' ρ).map (·.1)=(K ρ).map (·.1):=by intros;kernel_rfl)
    (ht:∀ ρ r,fact (upd ρ i r) i=(fun w=>Fi w0.w w ik r.a (r.n.headD 0) (zs ρ)):=by intros;kernel_rfl):jV P ops D l w0 h F0 vals effs fact i:=by
  refine y7 i ns f args K (fun ρ _=>K' ρ) hc he hn hk (fun ρ _=>hl ρ) (fun ρ T w hG hK=>(hf ρ T w hG hK).mono (fun e w' hew=>?_))
  obtain ⟨a,c,h1,h2,h3,h4⟩:=hew
  refine ⟨h2,{ n:=[c],a:=a},?_,h3,?_⟩
  · rw [hv];exact h1
  · rw [ht];exact (h4.pers (fun b hb=>hb)).mono (fun _ hi=>⟨hi,fun p hp hn=>Nat.le_trans hG.below.size (h4.2 p hp hn)⟩)
theorem qWJ {i:Nat} (ns:List Nat) {f:FuncId} {args:(Nat→bH)→Array Value} {v:(Nat→bH)→Option Addr→Nat→Value} {ik:IntKind} {zs:(Nat→bH)→List Int} {K K':(Nat→bH)→List (Nat × Obj)}
    (hf:∀ ρ T w,Given ops D w0 h F0 effs fact i ρ T w→Knows (K ρ) w→Calls P f (args ρ) w (fun e w'=>∃ a c,e=.returned (v ρ a c)∧nN (fun b=>b∈(K ρ).map (·.1)) w w'∧Knows (K' ρ) w'∧Fi w w' ik a c (zs ρ)))
    (hc:∀ ρ z,eU P ops D l (vals ρ) i z=some (.enter f (args ρ),[],[]):=by intros;kernel_rfl)
    (hv:∀ ρ r,vals (upd ρ i r) i=v ρ r.a (r.n.headD 0):=by intros;kernel_rfl) (he:∀ ρ r,effs (upd ρ i r) i={ puts:=ns.zip (K' ρ)}:=by intros;kernel_rfl)
    (hn:∀ ρ,dY ops D h (effs ρ) i ns=true:=by intros;kernel_rfl) (hk:∀ ρ,known ops D h (effs ρ) i ns=K ρ:=by intros;kernel_rfl) (hl:∀ ρ,(K' ρ).map (·.1)=(K ρ).map (·.1):=by intros;kernel_rfl)
    (ht:∀ ρ r,fact (upd ρ i r) i=(fun w=>Fi w0.w w ik r.a (r.n.headD 0) (zs ρ)):=by intros;kernel_rfl):jV P ops D l w0 h F0 vals effs fact i:=o_callWJ i ns f args v ik zs K K' hf hc hv he hn hk hl ht
end
section
variable {P : Program} {t e : TypeId} {b : Nat} {z : Value}
theorem xCH {w:World} {g:Nat} {x:bW} {T tx e':TypeId} {fr:Nat × Nat} (hk:P.underlying tx=some (.slice e')) (hb:w.heap[g]? = some (.cells x.row T fr)):Src P 36 tx (.slice (some ⟨g,0,none⟩) 1 1) 1 (pV [x]) w:=by
  have e:pV [x]=x.row.toList:=by simp [pV]
  rw [e]
  exact nX hk (by rw [Array.toArray_toList];exact hb) (by rw [x.row_len]) (List.all_eq_true.2 x.row_one)
theorem src_t2 {w:World} {g:Nat} {x y:bW} {T tx e':TypeId} {fr:Nat × Nat} (hk:P.underlying tx=some (.slice e')) (hb:w.heap[g]? = some (.cells (x.row++y.row) T fr)):Src P 36 tx (.slice (some ⟨g,0,none⟩) 2 2) 2 (pV [x,y]) w:=by
  have e:pV [x,y]=(x.row++y.row).toList:=by simp [pV]
  rw [e]
  exact nX hk (by rw [Array.toArray_toList];exact hb) (by rw [Array.toList_append,List.length_append,x.row_len,y.row_len]) (List.all_eq_true.2 (fun u hu=>by
    rw [Array.toList_append] at hu
    exact (List.mem_append.1 hu).elim (x.row_one u) (y.row_one u)))
theorem xCC {w:World} {ty tx:TypeId} (ht:P.underlying t=some (.slice e)) (hi:wM P e 36 b z) {x:Value} {us:List bW} (hs:Src P 36 tx x us.length (pV us) w) (h0:0<us.length) (hm:us.length≤1000) (hb:b≤1000) :
    ∃ k w',(do pure (Next.value (← Builtin.append_ #[t,tx] ty #[.slice none 0 0,x])):Sem Next).run P w=.ok (.value (.slice (some ⟨([w.heap.size,k]:List Nat).headD 0,0,none⟩) us.length (us.length+([w.heap.size,k]:List Nat).tail.headD 0))) w'∧Grew w w' (.cells ((pV us).toArray++Builtin.zeroCells z.cells (([w.heap.size,k]:List Nat).tail.headD 0)) e (0,0)) :=
  uV ht hi hs h0 (by omega) (Nat.le_trans (Nat.mul_le_mul hm hb) (by decide))
theorem At.fresh (hz:z.cells.size=36) (us:List bW) (k:Nat):At ((pV us).toArray++Builtin.zeroCells z.cells k) us (us.length+k):=Av.fresh hz (tmR_len us) k
theorem appT_any {w:World} {ty tx:TypeId} (ht:P.underlying t=some (.slice e)) (hi:wM P e 36 b z) {g c:Nat} {C:Array Value} {x:Value} {ts us:List bW} (hA:At C ts c) (hs:Src P 36 tx x us.length (pV us) w) (hm:ts.length+us.length≤1000) (hb:b≤1000) (hg:w.heap[g]? = some (.cells C e (0,0))) :
    ∃ r w',(do pure (Next.value (← Builtin.append_ #[t,tx] ty #[.slice (some ⟨g,0,none⟩) ts.length c,x])):Sem Next).run P w=.ok (.value (.slice (some ⟨r.n.headD 0,0,none⟩) (ts++us).length (r.n.tail.headD 0))) w'∧At (uG r) (ts++us) (r.n.tail.headD 0)∧Moved w w' g (r.n.headD 0) (.cells (uG r) e (0,0)):=by
  obtain ⟨r,w',h1,h2,h3⟩:=sN (ty:=ty) ht hi hA hs (by omega) (Nat.le_trans (Nat.mul_le_mul hm hb) (by decide)) hg
  refine ⟨r,w',?_,At.app h2,h3⟩
  rw [List.length_append];exact h1
end
theorem kp_one (p:dO):∀ u∈p.row.toList,u.oneCell'=true:=by
  intro u hu
  simp only [dO.row,kM,Array.toList_append,List.mem_append] at hu
  rcases hu with ((hu | hu) | hu) | hu
  · exact cU_one _ u hu
  · exact cU_one _ u hu
  · exact hB_oneL _ u hu
  · simp at hu;rcases hu with rfl | rfl | rfl | rfl | rfl<;>rfl
theorem Ak.one (p:dO):Av p.row 45 1 (kpR [p]) 1:=by
  have e:kpR [p]=p.row.toList:=by simp [kpR]
  have hl:=p.row_len
  refine ⟨?_,?_,Nat.le_refl _,?_⟩
  · rw [e,List.take_length]
  · rw [kpR_len];rfl
  · rw [Array.length_toList] at hl;exact hl
theorem Ak.two (p q:dO):Av (p.row++q.row) 45 2 (kpR [p,q]) 2:=by
  have e:kpR [p,q]=(p.row++q.row).toList:=by simp [kpR]
  have hl:=p.row_len
  have hq:=q.row_len
  rw [Array.length_toList] at hl hq
  refine ⟨?_,?_,Nat.le_refl _,?_⟩
  · rw [e,List.take_length]
  · rw [kpR_len];rfl
  · rw [Array.size_append,hl,hq]
theorem kf1 {T:Nat→Prop} {w0 w:World} {g:Nat} {e:TypeId} {fr:Nat × Nat} {p:dO} (hT:∀ b,T b→b<w0.heap.size) (hg:w0.heap.size≤g∧w.heap[g]? = some (.cells p.row e fr)) (hf:dL T (fun w=>Is w .u32 p.pa p.pc (nI p.ps)) w) (ho:p.Ok):dL T (fun w=>oG w (some ⟨g,0,none⟩) 1 [p]) w :=
  oG.mkP (Nat.le_refl 1) (Nat.le_of_ble_eq_true rfl) (rsP hT hg (Ak.one p)) (fun q hq=>by rw [List.mem_singleton.1 hq];exact hf) (fun q hq=>by rw [List.mem_singleton.1 hq];exact ho)
theorem kf2 {T:Nat→Prop} {w0 w:World} {g:Nat} {e:TypeId} {fr:Nat × Nat} {p q:dO} (hT:∀ b,T b→b<w0.heap.size) (hg:w0.heap.size≤g∧w.heap[g]? = some (.cells (p.row++q.row) e fr)) (hf:dL T (fun w=>Is w .u32 p.pa p.pc (nI p.ps)) w) (ho:p.Ok) (hf2:dL T (fun w=>Is w .u32 q.pa q.pc (nI q.ps)) w) (ho2:q.Ok):dL T (fun w=>oG w (some ⟨g,0,none⟩) 2 [p,q]) w :=
  oG.mkP (Nat.le_refl 2) (Nat.le_of_ble_eq_true rfl) (rsP hT hg (Ak.two p q)) (fun r hr=>by
    rcases List.mem_cons.1 hr with rfl | hr
    · exact hf
    · rw [List.mem_singleton.1 hr];exact hf2) (fun r hr=>by
    rcases List.mem_cons.1 hr with rfl | hr
    · exact ho
    · rw [List.mem_singleton.1 hr];exact ho2)
def MadeT (T:Nat→Prop) (w:World) (t:bW):Prop:=t.Ok∧dL T (fun w=>oG w t.ka t.kc t.ks) w∧SoftL t
theorem soft_0 {t:bW} (h:t.ks=[]) (hk:t.kd≠2):SoftL t:=⟨by rw [h];decide,fun q=>absurd q hk,by rw [h];simp⟩
theorem soft_1 {t:bW} {q:dO} (h:t.ks=[q]) (hk:t.kd≠2) (hq:SoftK q):SoftL t:=⟨by rw [h];exact Nat.le_of_ble_eq_true rfl,fun q=>absurd q hk,fun p hp=>by rw [h] at hp;rw [List.mem_singleton.1 hp];exact hq⟩
theorem soft_2 {t:bW} {q r:dO} (h:t.ks=[q,r]) (hq:SoftK q) (hr:SoftK r):SoftL t:=⟨by rw [h];exact Nat.le_refl 2,fun _=>by rw [h];rfl,fun p hp=>by
  rw [h] at hp
  rcases List.mem_cons.1 hp with e | e
  · rw [e];exact hq
  · rw [List.mem_singleton.1 e];exact hr⟩
theorem made_app {T:Nat→Prop} {w:World} {ts us:List bW} (h:∀ t∈ts,MadeT T w t) (h2:∀ t∈us,MadeT T w t):∀ t∈ts++us,MadeT T w t:=fun t ht=>(List.mem_append.1 ht).elim (h t) (h2 t)
theorem made_1 {T:Nat→Prop} {w:World} {t:bW} (h:MadeT T w t):∀ x∈[t],MadeT T w x:=fun x hx=>by rw [List.mem_singleton.1 hx];exact h
theorem xCG {T:Nat→Prop} {w0 w:World} {g c:Nat} {C:Array Value} {e:TypeId} {fr:Nat × Nat} {ts:List bW} (hT:∀ b,T b→b<w0.heap.size) (hg:w0.heap.size≤g∧w.heap[g]? = some (.cells C e fr)) (hA:At C ts c) (h:∀ t∈ts,MadeT T w t) (h0:0<ts.length) (h8:ts.length≤8):dL T (fun w=>TmN w (some ⟨g,0,none⟩) c ts) w :=
  (bM.mkP hA.le (by omega) (rsP hT hg hA) (fun t ht=>(h t ht).2.1) (fun t ht=>(h t ht).1)).mono (fun _ hh=>⟨hh,h0,h8,fun t ht=>(h t ht).2.2⟩)
def dm (v:Int) (n:Nat):Nat:=(v%(n:Int)).toNat
theorem iG (v:Int) {n:Nat} (hn:0<n):dm v n<n:=by
  unfold dm
  have:=Int.emod_nonneg v (b:=(n:Int)) (by omega)
  have:=Int.emod_lt_of_pos v (b:=(n:Int)) (by omega)
  omega
def pN (zs:List Int) (j:Nat):Nat:=min j zs.length
def dN (zs:List Int) (j n:Nat):Nat:=if j<zs.length then dm (gI zs j) n else 0
theorem xBP (zs:List Int) (j:Nat) {n:Nat} (hn:0<n):dN zs j n<n:=by
  unfold dN
  split
  · exact iG _ hn
  · exact hn
theorem pN_zero (zs:List Int):pN zs 0=0:=Nat.zero_min _
theorem pN_lt {zs:List Int} {j:Nat} (h:pN zs j<zs.length):j<zs.length∧pN zs j=j:=by unfold pN at *;omega
theorem pN_ge {zs:List Int} {j:Nat} (h: ¬ pN zs j<zs.length): ¬ j<zs.length∧pN zs (j+1)=pN zs j:=by unfold pN at *;omega
theorem pN_succ {zs:List Int} {j:Nat} (h:pN zs j<zs.length):pN zs (j+1)=pN zs j+1:=by unfold pN at *;omega
theorem dN_yes {zs:List Int} {j n:Nat} (h:pN zs j<zs.length):dm (gI zs (pN zs j)) n=dN zs j n:=by
  obtain ⟨h1,h2⟩:=pN_lt h
  unfold dN
  rw [if_pos h1,h2]
theorem dN_no {zs:List Int} {j n:Nat} (h: ¬ pN zs j<zs.length):0=dN zs j n:=by
  unfold dN
  rw [if_neg (pN_ge h).1]
theorem mod_pos {v:Int} {n:Nat} (h: ¬ Int.tmod v n<0):Int.tmod v n=((dm v n:Nat):Int):=by
  unfold dm
  rcases Nat.eq_zero_or_pos n with h0 | h0
  · subst h0
    simp at h ⊢
    omega
  · have e := Int.emod_nonneg v (b := (n : Int)) (by omega)
    have e2:=Int.emod_lt_of_pos v (b:=(n:Int)) (by omega)
    have h2:=Int.tmod_eq_emod (a:=v) (b:=(n:Int))
    rw [Int.natAbs_natCast] at h2
    split at h2<;>omega
theorem mod_neg {v:Int} {n:Nat} (hn:0<n) (h:Int.tmod v n<0):Int.tmod v n+n=((dm v n:Nat):Int):=by
  unfold dm
  have e:=Int.emod_nonneg v (b:=(n:Int)) (by omega)
  have e2:=Int.emod_lt_of_pos v (b:=(n:Int)) (by omega)
  have h2:=Int.tmod_eq_emod (a:=v) (b:=(n:Int))
  rw [Int.natAbs_natCast] at h2
  split at h2<;>omega
def hs2 (a b:Nat):Nat:=a*256^31+b
theorem hs2_lt {a b:Nat} (ha:a<256) (hb:b<256):hs2 a b<M:=by
  unfold hs2
  rw [mQ]
  have:a*256^31≤255*256^31:=Nat.mul_le_mul_right _ (by omega)
  omega
theorem hs2_byt {a b:Nat} (ha:a<256) (hb:b<256) (i:Nat) (hi:i<32):bN (hs2 a b) i=if i=0 then a else if i=31 then b else 0:=by
  unfold bN hs2
  by_cases h0:i=0
  · subst h0
    rw [if_pos rfl]
    omega
  · rw [if_neg h0]
    by_cases h1:i=31
    · subst h1
      rw [if_pos rfl]
      omega
    · rw [if_neg h1]
      obtain ⟨j,hj⟩:∃ j,31-i=j+1:=⟨30-i,by omega⟩
      have e1:256^31=256^(31-i)*256^i:=by rw [← Nat.pow_add];congr 1;omega
      have e2:b / 256^(31-i)=0:=Nat.div_eq_of_lt (Nat.lt_of_lt_of_le hb (by rw [hj];exact Nat.le_self_pow (by omega) 256))
      rw [e1,Nat.mul_comm a,Nat.mul_assoc,Nat.mul_add_div (Nat.pow_pos (by decide)),e2,Nat.add_zero,Nat.mul_comm]
      obtain ⟨q,hq⟩:∃ q,i=q+1:=⟨i-1,by omega⟩
      rw [hq,Nat.pow_succ,← Nat.mul_assoc]
      exact Nat.mul_mod_left _ _
theorem hs2_agg {a b:Nat} (ha:a<256) (hb:b<256):Value.agg #[.int .u8 ((a:Nat):Int),.int .u8 0,.int .u8 0,.int .u8 0,.int .u8 0,.int .u8 0,.int .u8 0,.int .u8 0,.int .u8 0,.int .u8 0,.int .u8 0,.int .u8 0,.int .u8 0,.int .u8 0,.int .u8 0,.int .u8 0,.int .u8 0,.int .u8 0,.int .u8 0,.int .u8 0,.int .u8 0,.int .u8 0,.int .u8 0,.int .u8 0,.int .u8 0,.int .u8 0,.int .u8 0,.int .u8 0,.int .u8 0,.int .u8 0,.int .u8 0,.int .u8 ((b:Nat):Int)]=.agg (hB (hs2 a b)):=by
  congr 1
  apply hB_ext rfl
  intro j hj
  rw [byt_bN,hs2_byt ha hb j hj]
  match j,hj with
  | 0,_=>rfl
  | 1,_=>rfl
  | 2,_=>rfl
  | 3,_=>rfl
  | 4,_=>rfl
  | 5,_=>rfl
  | 6,_=>rfl
  | 7,_=>rfl
  | 8,_=>rfl
  | 9,_=>rfl
  | 10,_=>rfl
  | 11,_=>rfl
  | 12,_=>rfl
  | 13,_=>rfl
  | 14,_=>rfl
  | 15,_=>rfl
  | 16,_=>rfl
  | 17,_=>rfl
  | 18,_=>rfl
  | 19,_=>rfl
  | 20,_=>rfl
  | 21,_=>rfl
  | 22,_=>rfl
  | 23,_=>rfl
  | 24,_=>rfl
  | 25,_=>rfl
  | 26,_=>rfl
  | 27,_=>rfl
  | 28,_=>rfl
  | 29,_=>rfl
  | 30,_=>rfl
  | 31,_=>rfl
  | j+32,h=>exact absurd h (by omega)
def xP (zs:List Int) (j:Nat):Nat:=1+dN zs j 4
def mkK (zs:List Int) (j:Nat) (b:Bool):Ky:={ s:=if b=true then xP zs j else 0,p:=dK (xP zs j),c:=hs2 (dN zs (j+1) 5) (dN zs (j+2) 7),d:=((dN zs (j+3) 3:Nat):Int),i:=dN zs (j+4) 5,n:=dN zs (j+5) 5}
theorem mkX_pos (zs:List Int) (j:Nat):1≤xP zs j∧xP zs j<5:=by
  have:=xBP zs j (n:=4) (by decide)
  unfold xP
  omega
theorem small_lt {x:Nat} (h:x<256):x<M:=by rw [mQ];exact Nat.lt_trans h (by decide)
theorem mkX_lt (zs:List Int) (j:Nat):xP zs j<M:=small_lt (by have:=mkX_pos zs j;omega)
theorem mkX_sec (zs:List Int) (j:Nat):iM (xP zs j)=true:=by
  have:=mkX_pos zs j
  unfold iM
  apply decide_eq_true
  exact ⟨by omega,Nat.lt_trans (show xP zs j<5 by omega) (by unfold qP;decide)⟩
theorem mkK_ok (zs:List Int) (j:Nat) (b:Bool):(mkK zs j b).Ok:=by
  have h1:=xBP zs (j+1) (n:=5) (by decide)
  have h2:=xBP zs (j+2) (n:=7) (by decide)
  have h4:=xBP zs (j+4) (n:=5) (by decide)
  have h5:=xBP zs (j+5) (n:=5) (by decide)
  exact ⟨ifM (mkX_lt _ _) iL,pubV_lt _,hs2_lt (by omega) (by omega),by show dN zs (j+4) 5<_;omega,by show dN zs (j+5) 5<_;omega⟩
theorem mkK_snd (zs:List Int) (j:Nat) (b:Bool):fC (mkK zs j b)=true:=by
  have h3:=xBP zs (j+3) (n:=3) (by decide)
  have hs:=mkX_sec zs j
  refine snd_mk (by show 0≤((dN zs (j+3) 3:Nat):Int);omega) (by show ((dN zs (j+3) 3:Nat):Int)≤8;omega) ?_ ?_
  · show iY (dK (xP zs j)) = true
    rw [(lZ hs).1];exact val_pub hs
  · show (if b = true then xP zs j else 0) = 0 ∨ (iM (if b = true then xP zs j else 0) = true ∧ dK (if b = true then xP zs j else 0) = dK (xP zs j))
    cases b
    · exact Or.inl rfl
    · exact Or.inr ⟨hs,rfl⟩
theorem qL {B:List UInt8} (h:((((B).length:Nat):Int) != 74)=false):B.length=74:=by
  have:((B.length:Nat):Int)=74:=by simpa using h
  omega
theorem len74n {B:List UInt8} (h:((((B).length:Nat):Int) != 74)=true):B.length≠74:=by
  intro e
  rw [e] at h
  exact absurd h (by decide)
theorem b01 {x:Nat} (h:(((x:Nat):Int)==0)=true):x=0:=by
  have:((x:Nat):Int)=0:=by simpa using h
  omega
theorem b00 {x:Nat} (h:(((x:Nat):Int)==0)=false):x≠0:=by
  intro e;subst e;exact absurd h (by decide)
section
variable {S : List UInt8} {t y x : Nat} (et : lV tgM S = t) (ey : lV tgI S = y) (ex : bC t 0 qP = x) (h : ¬ (S.length < 16 ∨ 64 < S.length))
include et ex h
include ey
end
def aK (ts:List bW):List dO:=ts.flatMap bW.ks
structure Mk where
  ta:Option Addr
  tc:Nat
  ts:List bW
  ka:Option Addr
  kc:Nat
  ns:List Nat
def Mk.step (s:Mk) (n:Nat):Mk:=⟨if s.tc=1 then s.ta else s.ta.map (·.add (1*36)),s.tc-1,s.ts.tail,if s.kc=n then s.ka else s.ka.map (·.add (n*4)),s.kc-n,s.ns.drop n⟩
def Mk.fst (s:Mk):bW:=gT s.ts 0
def Mk.go (s:Mk):Mk:=s.step s.fst.ks.length
def Mk.can (s:Mk):Bool:=decide (0<s.ts.length)&&(s.fst.fd&&decide (s.fst.ks.length≤s.ns.length))
theorem vl_get {ts:List bW} (h:xW ts=true):(1≤ts.length∧ts.length≤8)∧vG 1 ts=true∧ts.all bW.fd=true∧ts.all bW.vk=true:=by
  unfold xW at h
  simpa only [Bool.and_eq_true,decide_eq_true_eq] using h
def dO.er (p:dO):dO:=⟨p.k,p.ps,p.wd,none,0⟩
def dO.neu (p:dO):dO:=⟨p.k.neu,p.ps,p.wd,none,0⟩
def bW.er (t:bW):bW:=⟨t.kd,t.m,t.nu,t.h,t.ks.map dO.er,none,0⟩
def bW.neu (t:bW):bW:=⟨t.kd,t.m,t.nu,t.h,t.ks.map dO.neu,none,0⟩
section
variable {g : dO → dO} {G : bW → bW} (hG : ∀ t, G t = ⟨t.kd, t.m, t.nu, t.h, t.ks.map g, none, 0⟩)
include hG
theorem map_wh:∀ (m:Int) (ts:List bW),vG m (ts.map G)=vG m ts
  | _,[]=>rfl
  | m, t :: r => by
    have hk:(G t).kd=t.kd:=by rw [hG]
    rw [List.map_cons]
    simp only [vG]
    rw [hk,map_wh _ r]
theorem map_fd (ts:List bW):(ts.map G).all bW.fd=ts.all bW.fd:=by
  rw [List.all_map]
  exact congrFun (congrArg List.all rfl) _ |>.trans (by congr 1;funext t;show (G t).fd=t.fd;rw [hG];unfold bW.fd;rw [List.length_map])
theorem map_aK:∀ ts:List bW,aK (ts.map G)=(aK ts).map g
  | []=>rfl
  | t :: r => by
    show (G t).ks++aK (r.map G)=(t.ks++aK r).map g
    rw [List.map_append,map_aK r,hG]
end
theorem vk_aK:∀ ts:List bW,ts.all bW.vk=(aK ts).all dO.vp
  | []=>rfl
  | t::r=>by show (t.vk&&r.all bW.vk)=(t.ks++aK r).all dO.vp;rw [List.all_append,vk_aK r];rfl
theorem vl_er (ts:List bW):xW (ts.map bW.er)=xW ts:=by
  unfold xW
  rw [List.length_map,map_wh (G:=bW.er) (g:=dO.er) (fun _=>rfl),map_fd (G:=bW.er) (g:=dO.er) (fun _=>rfl),vk_aK,vk_aK,map_aK (G:=bW.er) (g:=dO.er) (fun _=>rfl),List.all_map]
  rfl
def Neu (ts us:List bW):Prop:=us.map bW.er=ts.map bW.neu
structure RowK (α:Type) (sz:Nat) where
  f:α→List Value
  len:∀ x,(f x).length=sz
  one:∀ x,∀ u∈f x,u.oneCell'=true
section
variable {α : Type} {sz : Nat} (K : RowK α sz)
def RowK.r (l:List α):List Value:=l.flatMap K.f
theorem RowK.r_len (l:List α):(K.r l).length=l.length*sz:=yB K.len l
theorem RowK.r_one (l:List α):∀ u∈K.r l,u.oneCell'=true:=by
  intro u hu
  obtain ⟨x,_,hx⟩:=List.mem_flatMap.1 hu
  exact K.one x u hx
theorem RowK.r_app (l m:List α):K.r (l++m)=K.r l++K.r m:=List.flatMap_append ..
def RowK.A (C:Array Value) (l:List α) (c:Nat):Prop:=Av C sz l.length (K.r l) c
variable {K}
theorem RowK.A.app {C:Array Value} {l m:List α} {c:Nat} (h:Av C sz (l.length+m.length) (K.r l++K.r m) c):K.A C (l++m) c:=by
  unfold RowK.A
  rw [List.length_append,K.r_app];exact h
theorem RowK.A.fresh {z:Value} (hz:z.cells.size=sz) (l:List α) (k:Nat):K.A ((K.r l).toArray++Builtin.zeroCells z.cells k) l (l.length+k):=Av.fresh hz (K.r_len l) k
theorem RowK.src {P:Program} {w:World} {g c:Nat} {l:List α} {T tx e':TypeId} {fr:Nat × Nat} (hk:P.underlying tx=some (.slice e')) (hb:w.heap[g]? = some (.cells (K.r l).toArray T fr)):Src P sz tx (.slice (some ⟨g,0,none⟩) l.length c) l.length (K.r l) w :=
  nX hk hb (K.r_len l) (List.all_eq_true.2 (K.r_one l))
variable {P : Program} {t e : TypeId} {b : Nat} {z : Value}
theorem xAP {w:World} {ty tx:TypeId} (ht:P.underlying t=some (.slice e)) (hi:wM P e sz b z) {x:Value} {us:List α} (hs:Src P sz tx x us.length (K.r us) w) (h0:0<us.length) (hm:us.length≤1000) (hb:b≤1000) :
    ∃ k w',(do pure (Next.value (← Builtin.append_ #[t,tx] ty #[.slice none 0 0,x])):Sem Next).run P w=.ok (.value (.slice (some ⟨([w.heap.size,k]:List Nat).headD 0,0,none⟩) us.length (us.length+([w.heap.size,k]:List Nat).tail.headD 0))) w'∧Grew w w' (.cells ((K.r us).toArray++Builtin.zeroCells z.cells (([w.heap.size,k]:List Nat).tail.headD 0)) e (0,0)) :=
  uV ht hi hs h0 (by omega) (Nat.le_trans (Nat.mul_le_mul hm hb) (by decide))
theorem wB {w:World} {ty tx:TypeId} (ht:P.underlying t=some (.slice e)) (hi:wM P e sz b z) {g c:Nat} {C:Array Value} {x:Value} {ts us:List α} (hA:K.A C ts c) (hs:Src P sz tx x us.length (K.r us) w) (hm:ts.length+us.length≤100000) (hb:b≤1000) (hg:w.heap[g]? = some (.cells C e (0,0))) :
    ∃ r w',(do pure (Next.value (← Builtin.append_ #[t,tx] ty #[.slice (some ⟨g,0,none⟩) ts.length c,x])):Sem Next).run P w=.ok (.value (.slice (some ⟨r.n.headD 0,0,none⟩) (ts++us).length (r.n.tail.headD 0))) w'∧K.A (uG r) (ts++us) (r.n.tail.headD 0)∧Moved w w' g (r.n.headD 0) (.cells (uG r) e (0,0)):=by
  obtain ⟨r,w',h1,h2,h3⟩:=sN (ty:=ty) ht hi hA hs (by omega) (Nat.le_trans (Nat.mul_le_mul hm hb) (by decide)) hg
  refine ⟨r,w',?_,RowK.A.app h2,h3⟩
  rw [List.length_append];exact h1
end
def kU:RowK Nat 4:=⟨fun n=>(cU n).toList,fun n=>by simp,fun n=>cU_one n⟩
def kI:RowK Nat 1:=⟨fun n=>[.int .u32 ((n:Nat):Int)],fun _=>rfl,fun n u hu=>by rw [List.mem_singleton.1 hu];rfl⟩
theorem tJ {P:Program} {w:World} {g n:Nat} {T tx e':TypeId} {fr:Nat × Nat} (hk:P.underlying tx=some (.slice e')) (hb:w.heap[g]? = some (.cells #[.int .u32 ((n:Nat):Int)] T fr)):Src P 1 tx (.slice (some ⟨g,0,none⟩) 1 1) [n].length (kI.r [n]) w :=
  RowK.src (K:=kI) (l:=[n]) hk hb
theorem kI_iv:∀ ps:List Nat,iv .u32 (nI ps)=kI.r ps
  | []=>rfl
  | p :: r => by
    show Value.int .u32 ((p:Nat):Int)::iv .u32 (nI r)=.int .u32 ((p:Nat):Int)::kI.r r
    rw [kI_iv r]
theorem Is.of_kI {w:World} {g c:Nat} {C:Array Value} {T:TypeId} {fr:Nat × Nat} {ps:List Nat} (hb:w.heap[g]? = some (.cells C T fr)) (hA:kI.A C ps c) (hm:ps.length≤140737488351232):Is w .u32 (some ⟨g,0,none⟩) c (nI ps) :=
  Is.of_av hb (by rw [kI_iv,fZ];exact hA) (by rw [fZ];exact hm)
section
variable {P : Program} {t e : TypeId} {b : Nat} {z : Value}
theorem appI_nil {w:World} {ty tx:TypeId} (ht:P.underlying t=some (.slice e)) (hi:wM P e 1 b z) {x:Value} {us:List Nat} (hs:Src P 1 tx x us.length (kI.r us) w) (h0:0<us.length) (hm:us.length≤1000) (hb:b≤1000) :
    ∃ k w',(do pure (Next.value (← Builtin.append_ #[t,tx] ty #[.slice none 0 0,x])):Sem Next).run P w=.ok (.value (.slice (some ⟨([w.heap.size,k]:List Nat).headD 0,0,none⟩) (nI us).length ((nI us).length+([w.heap.size,k]:List Nat).tail.headD 0))) w'∧Grew w w' (.cells ((kI.r us).toArray++Builtin.zeroCells z.cells (([w.heap.size,k]:List Nat).tail.headD 0)) e (0,0)):=by
  rw [fZ];exact xAP (K:=kI) ht hi hs h0 hm hb
theorem lT {w:World} {ty tx:TypeId} (ht:P.underlying t=some (.slice e)) (hi:wM P e 1 b z) {g c:Nat} {C:Array Value} {x:Value} {ts us:List Nat} (hA:kI.A C ts c) (hs:Src P 1 tx x us.length (kI.r us) w) (hm:ts.length+us.length≤100000) (hb:b≤1000) (hg:w.heap[g]? = some (.cells C e (0,0))) :
    ∃ r w',(do pure (Next.value (← Builtin.append_ #[t,tx] ty #[.slice (some ⟨g,0,none⟩) (nI ts).length c,x])):Sem Next).run P w=.ok (.value (.slice (some ⟨r.n.headD 0,0,none⟩) (nI (ts++us)).length (r.n.tail.headD 0))) w'∧kI.A (uG r) (ts++us) (r.n.tail.headD 0)∧Moved w w' g (r.n.headD 0) (.cells (uG r) e (0,0)):=by
  rw [fZ,fZ];exact wB (K:=kI) ht hi hA hs hm hb hg
end
section
variable {P : Program} {ops : Array Oper} {D : List Nat} {l : List (Nat × Value)} {w0 : Base} {h : List (Nat × Obj)} {F0 : World → Prop}
variable {vals : (Nat → bH) → Nat → Value} {effs : (Nat → bH) → Nat → Eff} {fact : (Nat → bH) → Nat → World → Prop}
end
section
variable {P : Program} {t e : TypeId}
end
section
variable {P : Program} {ops : Array Oper} {D : List Nat} {l : List (Nat × Value)} {w0 : Base} {h : List (Nat × Obj)} {F0 : World → Prop}
variable {vals : (Nat → bH) → Nat → Value} {effs : (Nat → bH) → Nat → Eff} {fact : (Nat → bH) → Nat → World → Prop}
end
theorem Rs.pers0 {w:World} {a:Option Addr} {vs:List Value} (h:Rs w a vs):dL (fun _=>False) (fun w=>Rs w a vs) w:=h.pers xBC
def gU (ns:List Nat) (j:Nat):Nat:=ns.getD j default
structure Us (w:World) (a:Option Addr) (c:Nat) (ns:List Nat):Prop where
  le:ns.length≤c
  max:ns.length≤1000000
  rows:Rs w a (kU.r ns)
  ok:∀ n∈ns,n<M
theorem Us.nil {w:World} {a:Option Addr} {c:Nat}:Us w a c []:=⟨by simp,by simp,Or.inl rfl,by simp⟩
theorem Us.persA {T:Nat→Prop} {w:World} {a:Option Addr} {c:Nat} {ns:List Nat} (h:Us w a c ns) (hT:Apart T a (kU.r ns).length):dL T (fun w=>Us w a c ns) w :=
  (h.rows.pers hT).mono (fun _ hr=>⟨h.le,h.max,hr,h.ok⟩)
theorem Us.pers0 {w:World} {a:Option Addr} {c:Nat} {ns:List Nat} (h:Us w a c ns):dL (fun _=>False) (fun w=>Us w a c ns) w:=h.persA xBC
theorem Us.pos {w:World} {a:Option Addr} {c:Nat} {ns:List Nat} (h:Us w a c ns) {i:Nat} (hi:i<ns.length):Rs w a (kU.r ns)∧0<(kU.r ns).length:=⟨h.rows,by rw [kU.r_len];omega⟩
section
variable {P : Program} {t e : TypeId} {w : World} {a : Option Addr} {c : Nat} {ns : List Nat}
theorem Us.idx (ht:P.underlying t=some (.slice e)) (hs:∀ w,(sizeOf e).run P w=.ok 4 w) {m:Nat} {k:IntKind} {z:Int} {j:Nat} (h:Us w a c ns) (hm:m=ns.length) (hz:z=(j:Int)) (hj:j<ns.length) :
    (do pure (Next.value (← Instr.indexAt t (.slice a m c) (.int k z))):Sem Next).run P w=.ok (.value (.pointer (fK a (j*4)))) w:=idx_rs ht hs (h.pos hj).1 (h.pos hj).2 hz (by omega)
theorem Us.ldA {i:Nat} (ha:∀ w,(isAgg e).run P w=.ok true w) (hs:∀ w,(sizeOf e).run P w=.ok 4 w) (h:Us w a c ns) (hi:i<ns.length) :
    (do pure (Next.value (← Instr.loadAt e (.pointer (fK a (i*4))))):Sem Next).run P w=.ok (.value (U (gU ns i))) w:=by
  have h1:=pG (us:=(cU (gU ns i)).toList) ha hs h.rows (by simp) (by decide) (fun j hj=>xBA (f:=kU.f) kU.len ns i j hi hj)
  rw [Array.toArray_toList] at h1;exact h1
theorem fP (ht:P.underlying t=some (.slice e)) {sz:Nat} (hs:∀ w,(sizeOf e).run P w=.ok sz w) {n m k:Nat} {lo':Value} (hm:m=n) (hh:lo'=.int .i64 (k:Int)) (hk:k≤n) (hc:n≤c) {r:Nat} (hr:n-k=r) :
    (do pure (Next.value (← Instr.sliceAt t (.slice a m c) (some lo') none none)):Sem Next).run P w=.ok (.value (.slice (if c=k then a else a.map (·.add (k*sz))) r (c-k))) w:=by
  subst hm hh hr
  have hs:=hs w
  have hb1:(Instr.sliceBounds true m c (some (.int .i64 (k:Int))) none none).run P w=.ok (k,m,c) w:=by
    simp [Instr.sliceBounds,Instr.sliceBound,asIntOf,hk]
  simp [Instr.sliceAt,Instr.slice,run_underlying ht,hs,hb1]
end
section
variable {α : Type} {sz : Nat} (K : RowK α sz)
theorem RowK.r_take:∀ (l:List α) (k:Nat),K.r (l.take k)=(K.r l).take (k*sz)
  | [],k=>by simp [RowK.r]
  | x::r,0=>by simp [RowK.r]
  | x :: r, k + 1 => by
    have hl:(K.f x).length=sz:=K.len x
    have h1:(K.f x).take ((k+1)*sz)=K.f x:=List.take_of_length_le (by rw [hl,Nat.add_mul,Nat.one_mul];omega)
    have h2:(k+1)*sz-sz=k*sz:=by rw [Nat.add_mul,Nat.one_mul];omega
    show K.f x++K.r (r.take k)=(K.f x++K.r r).take ((k+1)*sz)
    rw [List.take_append,hl,h1,h2,r_take r k]
theorem RowK.r_drop:∀ (l:List α) (k:Nat),K.r (l.drop k)=(K.r l).drop (k*sz)
  | [],k=>by simp [RowK.r]
  | x::r,0=>by simp [RowK.r]
  | x :: r, k + 1 => by
    have hl:(K.f x).length=sz:=K.len x
    have h1:(K.f x).drop ((k+1)*sz)=[]:=List.drop_of_length_le (by rw [hl,Nat.add_mul,Nat.one_mul];omega)
    have h2:(k+1)*sz-sz=k*sz:=by rw [Nat.add_mul,Nat.one_mul];omega
    show K.r (r.drop k)=(K.f x++K.r r).drop ((k+1)*sz)
    rw [List.drop_append,hl,h1,h2,r_drop r k];rfl
end
theorem Us.take {w:World} {a:Option Addr} {c:Nat} {ns:List Nat} (h:Us w a c ns) (k:Nat):Us w a c (ns.take k):=by
  refine ⟨Nat.le_trans (by rw [List.length_take];exact Nat.min_le_right _ _) h.le,Nat.le_trans (by rw [List.length_take];exact Nat.min_le_right _ _) h.max,?_,fun n hn=>h.ok n (List.mem_of_mem_take hn)⟩
  rw [RowK.r_take]
  exact h.rows.take _
theorem Us.drop {w:World} {a:Option Addr} {c:Nat} {ns:List Nat} (h:Us w a c ns) {k:Nat} (hk:k≤ns.length):Us w (if c=k then a else a.map (·.add (k*4))) (c-k) (ns.drop k):=by
  have hle:=h.le
  refine ⟨by rw [List.length_drop];omega,by rw [List.length_drop];have:=h.max;omega,?_,fun n hn=>h.ok n (List.mem_of_mem_drop hn)⟩
  by_cases hc:c=k
  · have : ns.drop k = [] := List.eq_nil_of_length_eq_zero (by rw [List.length_drop]; omega)
    rw [this];exact Or.inl rfl
  · rw [if_neg hc, RowK.r_drop]
    exact h.rows.drop _
section
variable {P : Program} {ops : Array Oper} {D : List Nat} {l : List (Nat × Value)} {w0 : Base} {h : List (Nat × Obj)} {F0 : World → Prop}
variable {vals : (Nat → bH) → Nat → Value} {effs : (Nat → bH) → Nat → Eff} {fact : (Nat → bH) → Nat → World → Prop}
theorem o_callWB (i:Nat) (ns:List Nat) (f:FuncId) (args:(Nat→bH)→Array Value) (v:(Nat→bH)→Option Addr→Nat→Value) (xs:(Nat→bH)→List UInt8) (K K':(Nat→bH)→List (Nat × Obj))
    (hf:∀ ρ T w,Given ops D w0 h F0 effs fact i ρ T w→Knows (K ρ) w→Calls P f (args ρ) w (fun e w'=>∃ a c,e=.returned (v ρ a c)∧nN (fun b=>b∈(K ρ).map (·.1)) w w'∧Knows (K' ρ) w'∧Fs w w' a c (xs ρ)))
    (hc:∀ ρ z,eU P ops D l (vals ρ) i z=some (.enter f (args ρ),[],[]):=by intros;kernel_rfl)
    (hv:∀ ρ r,vals (upd ρ i r) i=v ρ r.a (r.n.headD 0):=by intros;kernel_rfl) (he:∀ ρ r,effs (upd ρ i r) i={ puts:=ns.zip (K' ρ)}:=by intros;kernel_rfl)
    (hn:∀ ρ,dY ops D h (effs ρ) i ns=true:=by intros;kernel_rfl) (hk:∀ ρ,known ops D h (effs ρ) i ns=K ρ:=by intros;kernel_rfl) (hl:∀ ρ,(K' ρ).map (·.1)=(K ρ).map (·.1):=by intros;kernel_rfl)
    (ht:∀ ρ r,fact (upd ρ i r) i=(fun w=>Fs w0.w w r.a (r.n.headD 0) (xs ρ)):=by intros;kernel_rfl):jV P ops D l w0 h F0 vals effs fact i:=by
  refine y7 i ns f args K (fun ρ _=>K' ρ) hc he hn hk (fun ρ _=>hl ρ) (fun ρ T w hG hK=>(hf ρ T w hG hK).mono (fun e w' hew=>?_))
  obtain ⟨a,c,h1,h2,h3,h4⟩:=hew
  refine ⟨h2,{ n:=[c],a:=a},?_,h3,?_⟩
  · rw [hv];exact h1
  · rw [ht];exact (h4.pers (fun b hb=>hb)).mono (fun _ hx=>hx.older hG.below.size)
theorem qWB {i:Nat} (ns:List Nat) {f:FuncId} {args:(Nat→bH)→Array Value} {v:(Nat→bH)→Option Addr→Nat→Value} {xs:(Nat→bH)→List UInt8} {K K':(Nat→bH)→List (Nat × Obj)}
    (hf:∀ ρ T w,Given ops D w0 h F0 effs fact i ρ T w→Knows (K ρ) w→Calls P f (args ρ) w (fun e w'=>∃ a c,e=.returned (v ρ a c)∧nN (fun b=>b∈(K ρ).map (·.1)) w w'∧Knows (K' ρ) w'∧Fs w w' a c (xs ρ)))
    (hc:∀ ρ z,eU P ops D l (vals ρ) i z=some (.enter f (args ρ),[],[]):=by intros;kernel_rfl)
    (hv:∀ ρ r,vals (upd ρ i r) i=v ρ r.a (r.n.headD 0):=by intros;kernel_rfl) (he:∀ ρ r,effs (upd ρ i r) i={ puts:=ns.zip (K' ρ)}:=by intros;kernel_rfl)
    (hn:∀ ρ,dY ops D h (effs ρ) i ns=true:=by intros;kernel_rfl) (hk:∀ ρ,known ops D h (effs ρ) i ns=K ρ:=by intros;kernel_rfl) (hl:∀ ρ,(K' ρ).map (·.1)=(K ρ).map (·.1):=by intros;kernel_rfl)
    (ht:∀ ρ r,fact (upd ρ i r) i=(fun w=>Fs w0.w w r.a (r.n.headD 0) (xs ρ)):=by intros;kernel_rfl):jV P ops D l w0 h F0 vals effs fact i:=o_callWB i ns f args v xs K K' hf hc hv he hn hk hl ht
end
theorem Us.new {w0 w:World} {g c:Nat} {C:Array Value} {e:TypeId} {fr:Nat × Nat} {ns:List Nat} (hg:w0.heap.size≤g∧w.heap[g]? = some (.cells C e fr)) (hA:kU.A C ns c) (hm:ns.length≤1000000) (ok:∀ n∈ns,n<M):dL (fun b=>b<w0.heap.size) (fun w=>Us w (some ⟨g,0,none⟩) c ns) w :=
  (rsP (fun _ hb=>hb) hg hA).mono (fun _ hr=>⟨hA.le,hm,hr,ok⟩)
theorem Is.none {w:World} {k:IntKind} {a:Option Addr} {c:Nat} {ps:List Nat} (h:Is w k a c (nI ps)) (hn:a.isNone=true):ps=[]:=by
  cases a with
  | none =>
    rcases h.rows with h0 | ⟨p,hp,_⟩
    · have := congrArg List.length h0
      rw [zN,fZ] at this
      exact List.eq_nil_of_length_eq_zero this
    · exact absurd hp (by simp)
  | some p=>simp at hn
section
variable {i0 i j : Nat} {ts : List bW} {N T : List Nat} {E : Int} {R : List dO}
end
section
variable {ts : List bW} {z : Int}
end
def xO (n:Nat) (pa:Nat→Option Addr) (pc:Nat→Nat) (pB:Nat→List UInt8):Array Value:=((List.range n).map fun k=>Value.slice (pa k) (pB k).length (pc k)).toArray
theorem uX {n:Nat} {pa:Nat→Option Addr} {pc:Nat→Nat} {pB:Nat→List UInt8} {k:Nat} (h:k<n):(xO n pa pc pB)[k]? = some (.slice (pa k) (pB k).length (pc k)):=by
  simp [xO,h]
def rO (w:World) (n:Nat) (pa:Nat→Option Addr) (pc:Nat→Nat) (pB:Nat→List UInt8):Prop:=∀ k,k<n→Bs w (pa k) (pc k) (pB k)
theorem rO.pers0 {w:World} {n:Nat} {pa:Nat→Option Addr} {pc:Nat→Nat} {pB:Nat→List UInt8} (h:rO w n pa pc pB):dL (fun _=>False) (fun w=>rO w n pa pc pB) w:=by
  refine ⟨fun b=>b<w.heap.size,fun b hb=>⟨hb,id⟩,fun w' hw k hk=>?_⟩
  obtain ⟨S,s1,s2⟩:=(h k hk).pers0
  exact s2 w' (fun b hb=>hw b (s1 b hb).1)
theorem allB2 {w:World} {a0 a1:Option Addr} {c0 c1:Nat} {B0 B1:List UInt8} (h0:Bs w a0 c0 B0) (h1:Bs w a1 c1 B1):rO w 2 (fun k=>[a0,a1].getD k none) (fun k=>[c0,c1].getD k 0) (fun k=>[B0,B1].getD k []):=by
  intro k hk
  rcases (by omega:k=0∨k=1) with rfl | rfl
  · exact h0
  · exact h1
theorem allB3 {w:World} {a0 a1 a2:Option Addr} {c0 c1 c2:Nat} {B0 B1 B2:List UInt8} (h0:Bs w a0 c0 B0) (h1:Bs w a1 c1 B1) (h2:Bs w a2 c2 B2):rO w 3 (fun k=>[a0,a1,a2].getD k none) (fun k=>[c0,c1,c2].getD k 0) (fun k=>[B0,B1,B2].getD k []):=by
  intro k hk
  rcases (by omega:k=0∨k=1∨k=2) with rfl | rfl | rfl
  · exact h0
  · exact h1
  · exact h2
def mZ (pB:Nat→List UInt8):Nat→List UInt8
  | 0=>[]
  | k+1=>mZ pB k++pB k
theorem catB_le (pB:Nat→List UInt8) {i n:Nat} (h:i≤n):(mZ pB i).length≤(mZ pB n).length:=by
  induction n with
  | zero=>rw [show i=0 by omega];exact Nat.le_refl _
  | succ n ih =>
    rcases (by omega:i≤n∨i=n+1) with e | e
    · rw [mZ,List.length_append];have:=ih e;omega
    · rw [e];exact Nat.le_refl _
theorem sH (pB:Nat→List UInt8) {i n:Nat} (h:i<n):(mZ pB i).length+(pB i).length≤(mZ pB n).length:=by
  have:=catB_le pB (i:=i+1) (n:=n) h
  rw [mZ,List.length_append] at this
  exact this
section
variable {P : Program} {t e : TypeId}
theorem sO (ht:P.underlying t=some (.slice e)) (hs:∀ w,(sizeOf e).run P w=.ok 1 w) {g m c:Nat} {k:IntKind} {z:Int} {j:Nat} (hz:z=(j:Int)) (hj:j<m) (w:World) :
    (do pure (Next.value (← Instr.indexAt t (.slice (some ⟨g,0,none⟩) m c) (.int k z))):Sem Next).run P w=.ok (.value (.pointer (some ⟨g,j,none⟩))) w:=by
  subst hz
  have:=xX (P:=P) (t:=t) (elem:=e) (len:=m) (cap:=c) (s:=1) (g:=g) (off:=0) (k:=k) (n:=j) ht hs (by omega) (by omega) w
  simpa using this
end
theorem hd3 {x y z:Int} (h:0≤x∧x<256) (h':0≤y∧y<256) (h2:0≤z∧z<256):Hd #[.int .u8 x,.int .u8 y,.int .u8 z] [ob x,ob y,ob z]:=by
  simp [Hd,bs,zW h,zW h',zW h2]
theorem eX {s:Mk} (h:s.can=true):0<s.ts.length:=by
  unfold Mk.can at h
  simp only [Bool.and_eq_true,decide_eq_true_eq] at h
  exact h.1
theorem fE {s:Mk} (h:s.can=true):s.fst.ks.length≤s.ns.length:=by
  unfold Mk.can at h
  simp only [Bool.and_eq_true,decide_eq_true_eq] at h
  exact h.2.2
theorem bM.go {w:World} {s:Mk} (hc:s.can=true) (h:bM w s.ta s.tc s.ts):bM w s.go.ta s.go.tc s.go.ts:=h.tail (eX hc)
theorem Us.go {w:World} {s:Mk} (hc:s.can=true) (h:Us w s.ka s.kc s.ns):Us w s.go.ka s.go.kc s.go.ns:=h.drop (fE hc)
structure Left (s s':Mk):Prop where
  t:∀ w,bM w s.ta s.tc s.ts→bM w s'.ta s'.tc s'.ts
  u:∀ w,Us w s.ka s.kc s.ns→Us w s'.ka s'.kc s'.ns
  m:∀ x∈s'.ts,x∈s.ts
theorem Left.go {s:Mk} (hc:s.can=true):Left s s.go:=⟨fun _=>bM.go hc,fun _=>Us.go hc,fun _ hx=>List.mem_of_mem_tail hx⟩
theorem Left.trans {a b c:Mk} (h:Left a b) (k:Left b c):Left a c:=⟨fun w x=>k.t w (h.t w x),fun w x=>k.u w (h.u w x),fun x hx=>h.m x (k.m x hx)⟩
section
variable {ts : List bW} {z : Int}
end
section
variable {P : Program} {Q : Exit → Act → World → Prop} {n : Nat} {l : List (Nat × Value)} {w0 : Base} {h : List (Nat × Obj)} {F : World → Prop}
def Next1F {σ:Type} (n:Nat) (w0:Base) (F:σ→World→Prop) (L:σ→List (Nat × Value)) (H:σ→List (Nat × Obj)) (m:σ→Nat) (R:σ→Prop) (k:Nat) (A:Act) (w:World):Prop:=∃ s,m s<k∧R s∧Fr n (L s) A∧St w0 (H s) (F s) w
theorem ok_loopF {σ:Type} {c:Code} (Fs:σ→World→Prop) (L:σ→List (Nat × Value)) (H:σ→List (Nat × Obj)) (m:σ→Nat) (R:σ→Prop) (s0:σ) (hR:R s0) (hF:∀ w,F w→Fs s0 w) (hl:(L s0).map (fun x=>l.lookup x.1)=(L s0).map (fun x=>some x.2)) (hh:List.Sublist (H s0) h)
    (round:∀ s,R s→Ok P c (Exit.then (Next1F n w0 Fs L H m R (m s)) Q) n (L s) w0 (H s) (Fs s)):Ok P (.loop c) Q n l w0 h F:=by
  intro A w hf hs
  refine wp_loop_ghost (fun k A w=>∃ s,m s=k∧R s∧Fr n (L s) A∧St w0 (H s) (Fs s) w) (m s0) ⟨s0,rfl,hR,hf.sub _ (Subl.get hl),(hs.weaken hF).sub hh⟩ ?_
  rintro k A w ⟨s,rfl,h1,h2,h3⟩
  refine Code.wp_mono ?_ (round s h1 A w h2 h3)
  intro e A' w' hq
  cases e with
  | normal =>
    obtain ⟨s',q1,q2,q3,q4⟩:=hq
    exact ⟨m s',q1,s',rfl,q2,q3,q4⟩
  | _=>exact hq
theorem oLF {σ:Type} {c:Code} (Fs:σ→World→Prop) (L:σ→List (Nat × Value)) (H:σ→List (Nat × Obj)) (m:σ→Nat) (R:σ→Prop) (s0:σ) (hR:R s0) (hF:∀ w,F w→Fs s0 w) (ks:List Nat)
    (round:∀ s,R s→Ok P c (Exit.then (Next1F n w0 Fs L H m R (m s)) Q) n (L s) w0 (H s) (Fs s))
    (hl:(L s0).map (fun x=>l.lookup x.1)=(L s0).map (fun x=>some x.2):=by kernel_rfl) (hh:oW ks h=H s0:=by kernel_rfl):Ok P (.loop c) Q n l w0 h F :=
  ok_loopF Fs L H m R s0 hR hF hl (hh ▸ xBJ ks h) round
theorem mNF {σ:Type} {Fs:σ→World→Prop} {L:σ→List (Nat × Value)} {H:σ→List (Nat × Obj)} {m:σ→Nat} {R:σ→Prop} {k:Nat} (s:σ) (hm:m s<k) (hR:R s) (hc:∀ w,St w0 h F w→St w0 (H s) (Fs s) w) (hl:(L s).map (fun x=>l.lookup x.1)=(L s).map (fun x=>some x.2):=by kernel_rfl) :
    gJ (Exit.then (Next1F n w0 Fs L H m R k) Q .normal) n l w0 h F:=fun _ w hf hs=>⟨s,hm,hR,hf.sub _ (Subl.get hl),hc w hs⟩
end
theorem St.toFact {B:Base} {w:World} {h h':List (Nat × Obj)} {F G:World→Prop} (hS:St B h F w) (hh:List.Sublist h' h) (hG:dL (fun b=>b∈h'.map (·.1)) G w):St B h' (fun w=>G w∧F w) w:=by
  have hs:=hS.sub hh
  exact ⟨hs.below,hs.at_,hs.nodup,hG.and hs.facts⟩
section
variable {P : Program} {Q : Exit → Act → World → Prop} {n : Nat} {l : List (Nat × Value)} {w0 : Base} {h : List (Nat × Obj)} {F : World → Prop} {σ : Type}
def JoinP (P:Program) (y:Code) (Q:Exit→Act→World→Prop) (n:Nat) (w0:Base) (L:σ→List (Nat × Value)) (H:σ→List (Nat × Obj)) (Fs:σ→World→Prop) (R:σ→Prop):Prop:=∀ s,R s→Ok P y Q n (L s) w0 (H s) (Fs s)
variable (L : σ → List (Nat × Value)) (H : σ → List (Nat × Obj)) (Fs : σ → World → Prop) (R : σ → Prop)
theorem okJ1 {a y:Code} (hJ:∀ s,R s→Ok P y Q n (L s) w0 (H s) (Fs s)) (hx:JoinP P y Q n w0 L H Fs R→Ok P (.seq a y) Q n l w0 h F):Ok P (.seq a y) Q n l w0 h F:=hx hJ
theorem okJ2 {a b y:Code} (hJ:∀ s,R s→Ok P y Q n (L s) w0 (H s) (Fs s)) (hx:JoinP P y Q n w0 L H Fs R→Ok P (.seq a (.seq b y)) Q n l w0 h F):Ok P (.seq a (.seq b y)) Q n l w0 h F:=hx hJ
variable {L H Fs R}
theorem wQ {y:Code} (J:JoinP P y Q n w0 L H Fs R) (s:σ) (hR:R s) (hc:∀ w,St w0 h F w→St w0 (H s) (Fs s) w) (hl:(L s).map (fun x=>l.lookup x.1)=(L s).map (fun x=>some x.2):=by kernel_rfl):Ok P y Q n l w0 h F :=
  fun A w hf hs=>J s hR A w (hf.sub _ (Subl.get hl)) (hc w hs)
end
section
variable {B : Base} {w : World} {h : List (Nat × Obj)} {F : World → Prop} {g : Nat} {o : Obj}
theorem erase_nin:∀ {h:List (Nat × Obj)} {k:Nat},(h.map (·.1)).Nodup→h[k]? = some (g,o)→g ∉ (h.eraseIdx k).map (·.1)
  | [],_,_,hk=>by simp at hk
  | x :: r, 0, hn, hk => by
    obtain rfl:x=(g,o):=by simpa using hk
    rw [List.map_cons,List.nodup_cons] at hn
    exact hn.1
  | x :: r, k + 1, hn, hk => by
    rw [List.map_cons,List.nodup_cons] at hn
    have hk':r[k]? = some (g,o):=by simpa using hk
    rw [List.eraseIdx_cons_succ,List.map_cons,List.mem_cons,not_or]
    refine ⟨fun e=>hn.1 ?_,erase_nin hn.2 hk'⟩
    rw [← e]
    exact List.mem_map.2 ⟨_,List.mem_of_getElem? hk',rfl⟩
theorem St.froz (hS:St B h F w) (k:Nat) (hk:h[k]? = some (g,o)) (ks:List Nat) {h':List (Nat × Obj)} (hh:oW ks (h.eraseIdx k)=h') {G:World→Prop} (hG:B.w.heap.size≤w.heap.size→w.heap[g]? = some o→g ∉ h'.map (·.1)→dL (fun b=>b∈h'.map (·.1)) G w):St B h' (fun w=>G w∧F w) w:=by
  have h1:List.Sublist h' (h.eraseIdx k):=hh ▸ xBJ ks _
  have h2:=h1.trans (List.eraseIdx_sublist h k)
  refine hS.toFact h2 (hG hS.below.size (hS.at_ _ (List.mem_of_getElem? hk)).2 ?_)
  exact fun hm=>erase_nin hS.nodup hk ((h1.map _).subset hm)
end
def kK:RowK dO 45:=⟨fun p=>p.row.toList,dO.row_len,kp_one⟩
def kT:RowK bW 36:=⟨fun t=>t.row.toList,bW.row_len,bW.row_one⟩
def zKp:Value:=.agg (cU 0++cU 0++hB 0++ #[.int .i64 0,.int .u32 0,.int .u32 0,.slice none 0 0,.bool false])
theorem kpR_one (ks:List dO):∀ u∈kpR ks,u.oneCell'=true:=by
  intro u hu
  obtain ⟨p,_,hu⟩:=List.mem_flatMap.1 hu
  exact kp_one p u hu
theorem oG.srcR {P : Program} {w : World} {a : Option Addr} {c : Nat} {ks : List dO} {tx e' : TypeId} (hk : P.underlying tx = some (.slice e')) (h : oG w a c ks) : Src P 45 tx (.slice a ks.length c) ks.length (kpR ks) w := by
  have hr:Rs w a (kpR ks):=h.rows
  cases a with
  | none =>
    have h0:ks=[]:=by
      rcases hr with h0 | ⟨p,hp,_⟩
      · have := congrArg List.length h0
        rw [kpR_len] at this
        exact List.eq_nil_of_length_eq_zero (by simp only [List.length_nil] at this;omega)
      · exact absurd hp (by simp)
    subst h0
    exact Src.ofNil w hk c
  | some p =>
    refine Src.ofSlice w hk p ks.length c (kpR ks) (kpR_len ks) ?_ (kpR_one ks)
    intro j u hu
    rcases hr with h0 | ⟨p',hp,hh⟩
    · rw [h0] at hu;simp at hu
    · obtain rfl : p = p' := by simpa using hp
      exact hh j u hu
theorem kK_r (ks:List dO):kK.r ks=kpR ks:=by simp only [RowK.r,kpR,kK]
theorem kT_r (ts:List bW):kT.r ts=pV ts:=by simp only [RowK.r,pV,kT]
theorem oG.src {P:Program} {w:World} {a:Option Addr} {c:Nat} {ks:List dO} {tx e':TypeId} (hk:P.underlying tx=some (.slice e')) (h:oG w a c ks):Src P 45 tx (.slice a ks.length c) ks.length (kK.r ks) w:=by
  rw [kK_r];exact h.srcR hk
theorem src_tn {P:Program} {w:World} {g n:Nat} {t:bW} {T tx e':TypeId} {fr:Nat × Nat} (hk:P.underlying tx=some (.slice e')) (hn:n=t.ks.length) (hb:w.heap[g]? = some (.cells (iC t.kd t.m ((t.nu:Nat):Int) t.h (.slice t.ka n t.kc)) T fr)):Src P 36 tx (.slice (some ⟨g,0,none⟩) 1 1) [t].length (kT.r [t]) w:=by
  subst hn
  rw [kT_r]
  exact xCH hk hb
section
variable {P : Program} {ops : Array Oper} {D : List Nat} {l : List (Nat × Value)} {w0 : Base} {h : List (Nat × Obj)} {F0 : World → Prop}
variable {vals : (Nat → bH) → Nat → Value} {effs : (Nat → bH) → Nat → Eff} {fact : (Nat → bH) → Nat → World → Prop}
end
def kV (w:World) (us:List bW):Prop:=∀ t∈us,oG w t.ka t.kc t.ks
theorem kV.nil {w:World}:kV w []:=fun t ht=>absurd ht (by simp)
section
variable {B : Base} {w : World} {h : List (Nat × Obj)} {F : World → Prop} {g : Nat}
theorem St.frozT (hS:St B h F w) (k:Nat) {C:Array Value} {e:TypeId} {fr:Nat × Nat} {us:List bW} {c:Nat} (hA:kT.A C us c) (hm:us.length≤1000000) (hok:∀ t∈us,t.Ok) (hF:∀ w,F w→kV w us) (ks':List Nat) {h':List (Nat × Obj)}
    (hk:h[k]? = some (g,.cells C e fr):=by kernel_rfl) (hh:oW ks' (h.eraseIdx k)=h':=by kernel_rfl):St B h' (fun w=>bM w (some ⟨g,0,none⟩) c us∧F w) w:=by
  refine hS.froz k hk ks' hh (fun _ hg hn=>?_)
  have hsub:∀ b,b∈h'.map (·.1)→b∈h.map (·.1):=fun b hb=>((((hh ▸ xBJ ks' _:List.Sublist h' (h.eraseIdx k)).trans (List.eraseIdx_sublist h k)).map _).subset hb)
  have hrow:Rs w (some ⟨g,0,none⟩) (pV us):=by rw [← kT_r];exact Rs.of_av hg hA
  refine bM.mkP hA.le hm (hrow.pers (fun p hp _ hx=>by
    obtain rfl:(⟨g,0,none⟩:Addr)=p:=by simpa using hp
    exact hn hx)) (fun t ht=>(hS.facts.sub hsub).mono (fun w hw=>hF w hw t ht)) hok
end
theorem bne_f {x y:Int} (h:x=y):(x != y)=false:=by rw [h];exact bne_self_eq_false y
theorem xAN {P:Program} {Q:Exit→Act→World→Prop} {n:Nat} {l:List (Nat × Value)} {w0:Base} {h:List (Nat × Obj)} {F:World→Prop} {c:Code} {p:Prop} (hp:∀ w,F w→p) (hk:p→Ok P c Q n l w0 h F):Ok P c Q n l w0 h F :=
  fun A w hf hs=>hk (hp w hs.facts.now) A w hf hs
structure Cpy (ts us:List bW) (i:Nat):Prop where
  e:us.map bW.er=(ts.take i).map bW.neu
  ok:∀ t∈us,t.Ok
  k2:∀ t∈us,t.kd=2→t.ks.length=2
theorem Cpy.nil (ts:List bW):Cpy ts [] 0:=⟨rfl,by simp,by simp⟩
theorem Cpy.len {ts us:List bW} {i:Nat} (h:Cpy ts us i):us.length≤i:=by
  have:=congrArg List.length h.e
  rw [List.length_map,List.length_map,List.length_take] at this
  omega
theorem Cpy.done {ts us:List bW} {i:Nat} (h:Cpy ts us i) (hi:ts.length≤i):Neu ts us:=by
  unfold Neu
  rw [h.e,List.take_of_length_le hi]
theorem bM.drop {w:World} {a:Option Addr} {c:Nat} {ts:List bW} (h:bM w a c ts) {k:Nat} (hk:k≤ts.length):bM w (if c=k then a else a.map (·.add (k*36))) (c-k) (ts.drop k):=by
  have hle:=h.le
  refine ⟨by rw [List.length_drop];omega,by rw [List.length_drop];have:=h.max;omega,?_,fun t ht=>h.sub t (List.mem_of_mem_drop ht),fun t ht=>h.ok t (List.mem_of_mem_drop ht)⟩
  by_cases hc:c=k
  · have : ts.drop k = [] := List.eq_nil_of_length_eq_zero (by rw [List.length_drop]; omega)
    rw [this];exact Or.inl rfl
  · rw [if_neg hc]
    have e:(ts.drop k).flatMap (fun t=>t.row.toList)=(ts.flatMap fun t=>t.row.toList).drop (k*36):=by
      have:=RowK.r_drop kT ts k
      rw [kT_r,kT_r] at this
      exact this
    rw [e]
    exact h.rows.drop _
def hexD (n:Nat):Nat:=if n<10 then 48+n else 87+n
def hx2 (x:Nat):List UInt8:=[ob ((hexD (x / 16):Nat):Int),ob ((hexD (x%16):Nat):Int)]
def l7 (B:List UInt8):List UInt8:=B.flatMap fun x=>hx2 x.toNat
theorem eG (B:List UInt8):(l7 B).length=2*B.length:=by
  induction B with
  | nil=>rfl
  | cons x B ih=>rw [l7,List.flatMap_cons,List.length_append,← l7,ih];simp [hx2];omega
theorem wG {B X:List UInt8} {i:Nat} (hi:i≤B.length) (hX:X=l7 (B.take i)):X.length=2*i:=by
  rw [hX,eG,List.length_take];omega
theorem hx_next {B X:List UInt8} {i:Nat} (h:i<B.length) (hX:X=l7 (B.take i)):X++[ob ((hexD (gB B i / 16):Nat):Int),ob ((hexD (gB B i%16):Nat):Int)]=l7 (B.take (i+1)):=by
  rw [take_snoc h,l7,List.flatMap_append,← l7,hX]
  rfl
theorem hx_end {B X:List UInt8} {i:Nat} (h:B.length≤i) (hX:X=l7 (B.take i)):X=l7 B:=by
  rw [hX,List.take_of_length_le h]
theorem gB_dig {j:Nat} (h:j<16):gB [48,49,50,51,52,53,54,55,56,57,97,98,99,100,101,102] j=hexD j:=by
  revert j
  decide
theorem hexD_lt {n:Nat} (h:n<16):hexD n<256:=by unfold hexD;split<;>omega
theorem hexD_rng {n:Nat} (h:n<16):0≤((hexD n:Nat):Int)∧((hexD n:Nat):Int)<256:=by have:=hexD_lt h;omega
theorem and15 {x:Nat} (h:x<256):bits .and .u8 (x:Int) 15=((x%16:Nat):Int):=by
  have:=bits_andU (k:=.u8) rfl (a:=x) (b:=15) h (by decide)
  refine this.trans ?_
  rw [show (15:Nat)=2^4-1 from rfl,Nat.and_two_pow_sub_one_eq_mod]
def dg (c:Nat):Nat:=if 48≤c∧c≤57 then c-48 else if 97≤c∧c≤102 then c-87 else if 65≤c∧c≤70 then c-55 else 0
def dgB (c:Nat):Bool:=decide (48≤c∧c≤57)||decide (97≤c∧c≤102)||decide (65≤c∧c≤70)
theorem dg_lt (c:Nat):dg c<16:=by
  unfold dg
  split
  · omega
  · split
    · omega
    · split<;>omega
theorem rM {c:Nat} {v:Int} {b:Bool} (hv:v=((dg c:Nat):Int)) (hb:b=dgB c):(.tuple #[.int .u8 v,.bool b]:Value)=.tuple #[.int .u8 ((dg c:Nat):Int),.bool (dgB c)]:=by rw [hv,hb]
theorem dg1 {c:Nat} (h:48≤c∧c≤57):dg c=c-48∧dgB c=true:=by
  unfold dg dgB;rw [if_pos h];simp [h]
theorem dg2 {c:Nat} (h1: ¬ (48≤c∧c≤57)) (h:97≤c∧c≤102):dg c=c-87∧dgB c=true:=by
  unfold dg dgB;rw [if_neg h1,if_pos h];simp [h]
theorem dg3 {c:Nat} (h1: ¬ (48≤c∧c≤57)) (h2: ¬ (97≤c∧c≤102)) (h:65≤c∧c≤70):dg c=c-55∧dgB c=true:=by
  unfold dg dgB;rw [if_neg h1,if_neg h2,if_pos h];simp [h]
theorem dg0 {c:Nat} (h1: ¬ (48≤c∧c≤57)) (h2: ¬ (97≤c∧c≤102)) (h: ¬ (65≤c∧c≤70)):dg c=0∧dgB c=false:=by
  unfold dg dgB;rw [if_neg h1,if_neg h2,if_neg h];simp [h1,h2,h]
def uh1 (S:List UInt8) (j:Nat):Nat:=16*dg (gB S (2*j))+dg (gB S (2*j+1))
theorem uh1_lt (S:List UInt8) (j:Nat):uh1 S j<256:=by
  unfold uh1;have:=dg_lt (gB S (2*j));have:=dg_lt (gB S (2*j+1));omega
def uhP (S:List UInt8) (k:Nat):List UInt8:=(List.range k).map fun j=>ob ((uh1 S j:Nat):Int)
theorem uhP_length (S:List UInt8) (k:Nat):(uhP S k).length=k:=by simp [uhP]
def uhB (S:List UInt8) (n:Nat):Bool:=(List.range n).all fun j=>dgB (gB S j)
theorem uhB_get {S:List UInt8} {n i:Nat} (h:uhB S n=true) (hi:i<n):dgB (gB S i)=true:=by
  unfold uhB at h
  rw [List.all_eq_true] at h
  exact h i (List.mem_range.2 hi)
theorem uhB_of {S:List UInt8} {n:Nat} (h:∀ i,i<n→dgB (gB S i)=true):uhB S n=true:=by
  unfold uhB
  rw [List.all_eq_true]
  exact fun i hi=>h i (List.mem_range.1 hi)
theorem uhB_not {S:List UInt8} {n i:Nat} (hi:i<n) (h:dgB (gB S i)=false):uhB S n=false:=by
  cases e:uhB S n
  · rfl
  · rw [uhB_get e hi] at h;exact absurd h (by decide)
def uhR (S:List UInt8):List UInt8 × Int :=
  if 400000<S.length then ([],4) else if S.length%2≠0 then ([],7) else if uhB S S.length then (uhP S (S.length / 2),0) else ([],7)
def uhX (S:List UInt8):List UInt8:=(uhR S).1
def uhE (S:List UInt8):Int:=(uhR S).2
theorem uh_x {S xs:List UInt8} {e:Int} (h:uhR S=(xs,e)):xs=uhX S:=by unfold uhX;rw [h]
theorem uh_v {S xs:List UInt8} {e:Int} {a:Option Addr} {c:Nat} (h:uhR S=(xs,e)):(.tuple #[.slice a xs.length c,.int .i64 e]:Value)=.tuple #[.slice a (uhX S).length c,.int .i64 (uhE S)]:=by
  unfold uhX uhE;rw [h]
theorem uh4 {S:List UInt8} (h:400000<S.length):uhR S=([],4):=if_pos h
theorem uh7 {S:List UInt8} (h: ¬ 400000<S.length) (h1:S.length%2≠0):uhR S=([],7):=by rw [uhR,if_neg h,if_pos h1]
theorem uh7' {S:List UInt8} (h: ¬ 400000<S.length) (h1:S.length%2=0) (h2:uhB S S.length=false):uhR S=([],7):=by rw [uhR,if_neg h,if_neg (by omega),if_neg (by rw [h2];decide)]
theorem uh0 {S:List UInt8} (h: ¬ 400000<S.length) (h1:S.length%2=0) (h2:uhB S S.length=true):uhR S=(uhP S (S.length / 2),0):=by rw [uhR,if_neg h,if_neg (by omega),if_pos h2]
def un1 (S:List UInt8) (i j:Nat):Nat:=if 2*j+1<i then uh1 S j else if 2*j<i then dg (gB S (2*j)) else 0
def unL (S:List UInt8) (i:Nat):List UInt8:=(List.range (S.length / 2)).map fun j=>ob ((un1 S i j:Nat):Int)
theorem uQ (S:List UInt8) (i:Nat):(unL S i).length=S.length / 2:=by simp [unL]
def unC (S:List UInt8) (i:Nat):Array Value:=(bs (unL S i)).toArray
theorem xBY (S:List UInt8) (i:Nat):(unC S i).size=S.length / 2:=by simp [unC,bs,uQ]
theorem un1_lt (S:List UInt8) (i j:Nat):un1 S i j<256:=by
  unfold un1
  split
  · exact uh1_lt S j
  · split
    · have:=dg_lt (gB S (2*j));omega
    · omega
theorem unC_zero (S:List UInt8):unC S 0=zB (S.length / 2):=by
  unfold unC zB
  congr 2
  apply List.ext_getElem
  · simp [uQ]
  · intro n h1 h2
    simp [unL,un1,ob]
theorem unC_get {S:List UInt8} {i j:Nat} (h:j<S.length / 2):(unC S i)[j]? = some (.int .u8 ((un1 S i j:Nat):Int)):=by
  unfold unC
  have hl:j<(bs (unL S i)).length:=by rw [dH,uQ];exact h
  rw [List.getElem?_toArray,List.getElem?_eq_getElem hl]
  simp only [bs,unL,List.getElem_map,List.getElem_range]
  rw [zW (by have:=un1_lt S i j;omega)]
def unV (S:List UInt8) (i:Nat):Nat:=un1 S i (i / 2)*16+dg (gB S i)
theorem un_before {S:List UInt8} (i:Nat):un1 S i (i / 2)<16:=by
  unfold un1
  rw [if_neg (by omega)]
  split
  · exact dg_lt _
  · omega
theorem un_after (S:List UInt8) (i:Nat):un1 S (i+1) (i / 2)=unV S i:=by
  unfold unV un1
  rcases Nat.mod_two_eq_zero_or_one i with h | h
  · rw [if_neg (by omega),if_pos (by omega),if_neg (by omega),if_neg (by omega),show 2*(i / 2)=i by omega];omega
  · rw [if_pos (by omega),if_neg (by omega),if_pos (by omega),uh1,show 2*(i / 2)+1=i by omega];omega
theorem un_other (S:List UInt8) {i j:Nat} (h:j≠i / 2):un1 S (i+1) j=un1 S i j:=by
  unfold un1
  by_cases h1:2*j+1<i
  · rw [if_pos (by omega),if_pos h1]
  · rw [if_neg (by omega), if_neg h1]
    by_cases h2:2*j<i
    · omega
    · rw [if_neg (by omega),if_neg h2]
theorem unC_set {S:List UInt8} {i:Nat} (_h:i / 2<S.length / 2):(unC S i).setIfInBounds (i / 2) (.int .u8 ((unV S i:Nat):Int))=unC S (i+1):=by
  apply Array.ext_getElem?
  intro j
  by_cases hj:j<S.length / 2
  · rw [unC_get hj]
    by_cases e:j=i / 2
    · subst e
      rw [Array.getElem?_setIfInBounds_self_of_lt (by rw [xBY];exact hj),un_after]
    · rw [Array.getElem?_setIfInBounds_ne (by omega),unC_get hj,un_other S e]
  · rw [Array.getElem?_eq_none (by rw [Array.size_setIfInBounds,xBY];omega),Array.getElem?_eq_none (by rw [xBY];omega)]
theorem un_or {S:List UInt8} (i:Nat):bits .or .u8 ((un1 S i (i / 2)*16:Nat):Int) ((dg (gB S i):Nat):Int)=((unV S i:Nat):Int):=by
  have h1:=un_before (S:=S) i
  have h2:=dg_lt (gB S i)
  have h8:(2:Nat)^IntKind.u8.bits=256:=rfl
  rw [xBB rfl (by omega) (by omega)]
  congr 1
  rw [unV,Nat.mul_comm,show (16:Nat)=2^4 from rfl,← Nat.two_pow_add_eq_or_of_lt h2]
theorem run_un4 {P:Program} {t:TypeId} (S:List UInt8) (i:Nat) (w:World):(binOp .shl t (.int .u8 ((un1 S i (i / 2):Nat):Int)) (.int .u64 4)).run P w=.ok (.int .u8 ((un1 S i (i / 2)*16:Nat):Int)) w :=
  sV (k:=.u8) (yk:=.u64) (x:=un1 S i (i / 2)) (c:=4) rfl (by have:=un_before (S:=S) i;show _*16<256;omega) (fun _=>by decide) w
theorem un_end {S:List UInt8} {i:Nat} (h:S.length≤i) (h2:S.length%2=0):unL S i=uhP S (S.length / 2):=by
  unfold unL uhP
  apply List.map_congr_left
  intro j hj
  rw [List.mem_range] at hj
  rw [un1,if_pos (by omega)]
theorem dg_next {S:List UInt8} {i:Nat} (h:∀ j,j<i→dgB (gB S j)=true) (hi:dgB (gB S i)=true):∀ j,j<i+1→dgB (gB S j)=true:=fun j hj=>by
  rcases (by omega:j<i∨j=i) with e | e
  · exact h j e
  · rw [e];exact hi
theorem uh_ok {S xs:List UInt8} {i:Nat} (h: ¬ 400000<S.length) (h1:S.length%2=0) (hi:S.length≤i) (h2:∀ j,j<i→dgB (gB S j)=true) (hx:xs=uhP S (S.length / 2)):uhR S=(xs,0):=by
  rw [hx];exact uh0 h h1 (uhB_of fun j hj=>h2 j (by omega))
theorem uh_bad {S:List UInt8} {i:Nat} (h: ¬ 400000<S.length) (h1:S.length%2=0) (hi:i<S.length) (h2:dgB (gB S i)=false):uhR S=([],7):=uh7' h h1 (uhB_not hi h2)
theorem un_row {S:List UInt8} {i:Nat}:(List.replicate (S.length / 2) (0:UInt8)).length=(unL S i).length:=by rw [List.length_replicate,uQ]
theorem jP {P:Program} {t:TypeId} (X Y:List UInt8) (h:X.length+Y.length≤9223372036854775807) (w:World):(binOp .add t (.string (gY X)) (.string (gY Y))).run P w=.ok (.string (gY (X++Y))) w:=by
  have hs:(gY X).size+(gY Y).size=X.length+Y.length:=rfl
  have e: ¬ ((((gY X).size+(gY Y).size:Nat):Int)>IntKind.i64.max):=by
    rw [hs];show ¬ (_>(9223372036854775807:Int));omega
  have e2:gY X++gY Y=gY (X++Y):=by
    apply ByteArray.ext
    rw [ByteArray.data_append]
    simp [gY]
  simp only [binOp,Op.stringOp,if_neg e,e2]
  rfl
def dS (n:Nat):List UInt8:=Lib.decDigits n
theorem kP {n:Nat} (h:n<18446744073709551616):(dS n).length≤20:=by unfold dS;rw [Lib.decDigits_length];exact Lib.nDigits_le20 n h
def sgT (i:Nat):List UInt8:=if 2147483648≤i then ([47]++dS (i-2147483648))++[104] else [47]++dS i
def paT (l:List Nat):List UInt8:=l.flatMap sgT
def kpT (k:Ky) (ps:List Nat) (wd:Bool):List UInt8:=(l7 (sJ k)++paT ps)++(if wd=true then [47,42] else [])
def dO.tx (p:dO):List UInt8:=kpT p.k p.ps p.wd
theorem sgT_len {i:Nat} (h:i<4294967296):(sgT i).length≤22:=by
  unfold sgT;split
  · have := kP (n := i - 2147483648) (by omega)
    simp only [List.length_append,List.length_cons,List.length_nil];omega
  · have := kP (n := i) (by omega)
    simp only [List.length_append,List.length_cons,List.length_nil];omega
theorem paT_len:∀ l:List Nat,(∀ x∈l,x<4294967296)→(paT l).length≤22*l.length
  | [],_=>Nat.zero_le _
  | x :: r, h => by
    have h1:=sgT_len (h x (List.mem_cons_self ..))
    have h2:=paT_len r (fun y hy=>h y (List.mem_cons_of_mem _ hy))
    show (sgT x++paT r).length≤_
    rw [List.length_append,List.length_cons];omega
theorem paT_next {l:List Nat} {i:Nat} (h:i<l.length):paT (l.take (i+1))=paT (l.take i)++sgT (l.getD i 0):=by
  rw [List.take_succ_eq_append_getElem h]
  unfold paT
  rw [List.flatMap_append,List.getD_eq_getElem?_getD,List.getElem?_eq_getElem h]
  simp
theorem kpT_len {k:Ky} {ps:List Nat} {wd:Bool} (h:∀ x∈ps,x<4294967296) (h8:ps.length≤8):(kpT k ps wd).length≤400:=by
  have:=paT_len ps h
  unfold kpT
  rw [List.length_append,List.length_append,eG,xE]
  split<;>simp only [List.length_cons,List.length_nil]<;>omega
theorem txU {x:Nat} (h:x<4294967296):IntKind.u64.wrap (x:Int)=(x:Int):=by rw [IntKind.wrap_u64];omega
theorem txS {x:Nat} (h:x<4294967296) (h1:decide ((2147483648:Int)≤(x:Int))=true):IntKind.u32.wrap ((x:Int)-2147483648)=((x-2147483648:Nat):Int):=by
  have:=of_decide_eq_true h1
  rw [IntKind.wrap_u32];omega
theorem txG {l:List Nat} (h:∀ x∈l,x<4294967296) (i:Nat):l.getD i 0<4294967296:=wF (q:=fun x:Nat=>x<4294967296) h (by decide) i
theorem sg_h {x:Nat} (h:decide ((2147483648:Int)≤(x:Int))=true):([47]++dS (x-2147483648))++[104]=sgT x:=by
  have:=of_decide_eq_true h
  unfold sgT;rw [if_pos (by omega)]
theorem sg_n {x:Nat} (h:decide ((2147483648:Int)≤(x:Int))=false):[47]++dS x=sgT x:=by
  have:=of_decide_eq_false h
  unfold sgT;rw [if_neg (by omega)]
section
variable {X E : List UInt8} {l : List Nat} {i : Nat}
theorem tx_next {Y:List UInt8} (h:i<l.length) (hX:X=E++paT (l.take i)) (e:Y=sgT (l.getD i 0)):X++Y=E++paT (l.take (i+1)):=by
  rw [hX,e,paT_next h,List.append_assoc]
end
theorem tx_len {X:List UInt8} {k:Ky} {l:List Nat} {i:Nat} (hX:X=l7 (sJ k)++paT (l.take i)) (h:∀ x∈l,x<4294967296):X.length≤148+22*l.length:=by
  have h1:=paT_len (l.take i) (fun x hx=>h x (List.mem_of_mem_take hx))
  have h2:(l.take i).length≤l.length:=List.length_take_le' i l
  rw [hX,List.length_append,eG,xE];omega
theorem tx_w1 {X:List UInt8} {k:Ky} {l:List Nat} {i:Nat} {wd:Bool} (hi:l.length≤i) (hX:X=l7 (sJ k)++paT (l.take i)) (h:wd=true):X++[47,42]=kpT k l wd:=by
  unfold kpT;rw [if_pos h,hX,List.take_of_length_le hi]
theorem tx_w0 {X:List UInt8} {k:Ky} {l:List Nat} {i:Nat} {wd:Bool} (hi:l.length≤i) (hX:X=l7 (sJ k)++paT (l.take i)) (h:wd=false):X=kpT k l wd:=by
  unfold kpT;rw [h,if_neg (by decide),hX,List.take_of_length_le hi,List.append_nil]
def xM (ks:List dO):List UInt8:=ks.flatMap fun p=>[44]++p.tx
def nK (p:dO):List UInt8:=([107,101,121,40]++p.tx)++[41]
def nY (m:Int) (ks:List dO):List UInt8:=(([109,117,108,116,105,40]++dS m.toNat)++xM ks)++[41]
def arT (kd:Int) (nu h:Nat):List UInt8:=if kd=3 then [97,102,116,101,114,40]++dS nu else if kd=4 then [111,108,100,101,114,40]++dS nu else [104,97,115,104,40]++l7 (hL h)
def slT (kd:Int) (nu h:Nat) (x:List UInt8):List UInt8:=((arT kd nu h++[44])++x)++[41]
def eiT (x y:List UInt8):List UInt8:=((([101,105,116,104,101,114,40]++x)++[44])++y)++[41]
structure Tq where
  ta:Option Addr
  tc:Nat
  ts:List bW
def Tq.fst (s:Tq):bW:=gT s.ts 0
def Tq.go (s:Tq):Tq:=⟨if s.tc=1 then s.ta else s.ta.map (·.add (1*36)),s.tc-1,s.ts.tail⟩
def FwP (t:bW):Prop:=(t.kd=1→t.ks.length=1)∧(t.kd=2→1≤t.ks.length∧t.ks.length≤20000∧0≤t.m∧t.m<4294967296)∧(t.kd≠1→t.kd≠2→t.ks.length=0)
instance instDecFwP (t:bW):Decidable (FwP t):=by unfold FwP;exact inferInstance
def bW.fw (t:bW):Bool:=decide (FwP t)
theorem fw_iff {t:bW} (h:t.fw=true):FwP t:=of_decide_eq_true h
theorem fd_fw {t:bW} (h:t.fd=true):t.fw=true:=by
  have hF:=(xAT _ _ _ _ _).1 h
  refine decide_eq_true ⟨hF.2.2.2.1,fun hk=>?_,hF.2.2.2.2.2⟩
  have:=hF.2.2.2.2.1 hk
  omega
theorem fds_fws {ts:List bW} (h:ts.all bW.fd=true):ts.all bW.fw=true:=List.all_eq_true.2 (fun t ht=>fd_fw (List.all_eq_true.1 h t ht))
def bx : Nat → Tq → Option (List UInt8 × Tq)
  | 0,_=>none
  | f + 1, s => if s.ts.length = 0 ∨ s.fst.fw = false then none else
    if s.fst.kd=1 then some (nK (gK s.fst.ks 0),s.go) else
    if s.fst.kd=2 then some (nY s.fst.m s.fst.ks,s.go) else
    match bx f s.go with
    | none=>none
    | some (a, s1) =>
      if s.fst.kd=6 then (match bx f s1 with
        | none=>none
        | some (b,s2)=>some (eiT a b,s2))
      else if 3≤s.fst.kd∧s.fst.kd≤5 then some (slT s.fst.kd s.fst.nu s.fst.h a,s1) else none
theorem bx_ok : ∀ (f : Nat) (k : Int) (s : Tq), s.ts.length ≤ f → 1 ≤ k → vG k s.ts = true → s.ts.all bW.fw = true →
    ∃ b s',bx f s=some (b,s')∧vG (k-1) s'.ts=true∧s'.ts.all bW.fw=true∧s'.ts.length<s.ts.length
  | 0, k, s, hl, hk, hw, _ => by
    rw [List.eq_nil_of_length_eq_zero (Nat.le_zero.1 hl)] at hw
    have:=of_decide_eq_true (show decide (k=0)=true from hw)
    omega
  | f + 1, k, s, hl, hk, hw, hf => by
    cases e:s.ts with
    | nil =>
      rw [e] at hw
      have:=of_decide_eq_true (show decide (k=0)=true from hw)
      omega
    | cons t r =>
      rw [e] at hw hf hl
      have hk0: ¬ (k=0∨nO t.kd<0):=fun q=>by simp only [vG,if_pos q] at hw;exact absurd hw (by decide)
      simp only [vG,if_neg hk0] at hw
      rw [List.all_cons,Bool.and_eq_true] at hf
      have hft:s.fst=t:=by unfold Tq.fst;rw [e];rfl
      have hgo:s.go.ts=r:=by show s.ts.tail=r;rw [e];rfl
      have hc: ¬ (s.ts.length=0∨t.fw=false):=by rw [e,hf.1];simp
      have hlr:r.length≤f:=by simpa using hl
      unfold bx
      rw [hft,if_neg hc]
      by_cases c1:t.kd=1
      · rw [if_pos c1]
        rw [show nO t.kd=0 by rw [c1];rfl] at hw
        exact ⟨_,_,rfl,by rw [hgo];exact hw,by rw [hgo];exact hf.2,by rw [hgo];exact Nat.lt_succ_self _⟩
      rw [if_neg c1]
      by_cases c2:t.kd=2
      · rw [if_pos c2]
        rw [show nO t.kd=0 by rw [c2];rfl] at hw
        exact ⟨_,_,rfl,by rw [hgo];exact hw,by rw [hgo];exact hf.2,by rw [hgo];exact Nat.lt_succ_self _⟩
      rw [if_neg c2]
      by_cases c6:t.kd=6
      · rw [show nO t.kd = 2 by rw [c6]; rfl] at hw
        obtain ⟨a,s1,h1,w1,f1,l1⟩:=bx_ok f (k+(2-1)) s.go (by rw [hgo];exact hlr) (by omega) (by rw [hgo];exact hw) (by rw [hgo];exact hf.2)
        rw [hgo] at l1
        obtain ⟨b,s2,h2,w2,f2,l2⟩:=bx_ok f (k+(2-1)-1) s1 (by omega) (by omega) w1 f1
        rw [h1]
        simp only [if_pos c6]
        rw [h2]
        exact ⟨_,_,rfl,by rw [← w2];congr 1;omega,f2,by rw [List.length_cons];omega⟩
      have c345:t.kd=3∨t.kd=4∨t.kd=5:=by
        have: ¬ nO t.kd<0:=fun q=>hk0 (Or.inr q)
        unfold nO at this
        by_cases q:t.kd=3∨t.kd=4∨t.kd=5
        · exact q
        · rw [if_neg (by omega),if_neg q,if_neg c6] at this;exact absurd (by decide) this
      rw [show nO t.kd=1 by unfold nO;rw [if_neg (by omega),if_pos c345]] at hw
      obtain ⟨a,s1,h1,w1,f1,l1⟩:=bx_ok f k s.go (by rw [hgo];exact hlr) hk (by rw [hgo,← hw];congr 1;omega) (by rw [hgo];exact hf.2)
      rw [hgo] at l1
      rw [h1]
      simp only [if_neg c6,if_pos (show 3≤t.kd∧t.kd≤5 by omega)]
      exact ⟨_,_,rfl,w1,f1,by rw [List.length_cons];omega⟩
theorem bx_sim:∀ (f:Nat) (s t:Tq),s.ts=t.ts→(bx f s=none∧bx f t=none)∨∃ b s' t',bx f s=some (b,s')∧bx f t=some (b,t')∧s'.ts=t'.ts
  | 0,_,_,_=>Or.inl ⟨rfl,rfl⟩
  | f + 1, s, t, h => by
    have hg:s.go.ts=t.go.ts:=congrArg List.tail h
    have hf:s.fst=t.fst:=congrArg (fun x=>gT x 0) h
    unfold bx
    rw [h,hf]
    by_cases c0:t.ts.length=0∨t.fst.fw=false
    · rw [if_pos c0,if_pos c0];exact Or.inl ⟨rfl,rfl⟩
    rw [if_neg c0,if_neg c0]
    by_cases c1:t.fst.kd=1
    · rw [if_pos c1,if_pos c1];exact Or.inr ⟨_,_,_,rfl,rfl,hg⟩
    rw [if_neg c1,if_neg c1]
    by_cases c2:t.fst.kd=2
    · rw [if_pos c2,if_pos c2];exact Or.inr ⟨_,_,_,rfl,rfl,hg⟩
    rw [if_neg c2,if_neg c2]
    rcases bx_sim f s.go t.go hg with ⟨ha,hb⟩ | ⟨b,s',t',ha,hb,h'⟩
    · rw [ha,hb];exact Or.inl ⟨rfl,rfl⟩
    rw [ha,hb]
    by_cases c6:t.fst.kd=6
    · simp only [if_pos c6]
      rcases bx_sim f s' t' h' with ⟨ha,hb⟩ | ⟨b2,s2,t2,ha,hb,h2⟩
      · rw [ha,hb];exact Or.inl ⟨rfl,rfl⟩
      · rw [ha,hb];exact Or.inr ⟨_,_,_,rfl,rfl,h2⟩
    · simp only [if_neg c6]
      by_cases c3:3≤t.fst.kd∧t.fst.kd≤5
      · simp only [if_pos c3];exact Or.inr ⟨_,_,_,rfl,rfl,h'⟩
      · simp only [if_neg c3];exact Or.inl (by simp)
def bxB (ts:List bW):List UInt8:=((bx 8 ⟨none,0,ts⟩).map (·.1)).getD []
theorem bx_goW {ts:List bW} (hl:ts.length≤8) (hw:vG 1 ts=true) (hf:ts.all bW.fw=true) (a:Option Addr) (c:Nat):∃ s',bx 8 ⟨a,c,ts⟩=some (bxB ts,s'):=by
  obtain ⟨x,s',hx,_⟩:=bx_ok 8 1 ⟨a,c,ts⟩ hl (by decide) hw hf
  rcases bx_sim 8 ⟨a,c,ts⟩ ⟨none,0,ts⟩ rfl with ⟨ha,_⟩ | ⟨y,s2,t2,ha,hb,_⟩
  · rw [hx] at ha;exact absurd ha (by simp)
  · refine ⟨s2, ?_⟩
    rw [ha]
    show some (y,s2)=some (bxB ts,s2)
    unfold bxB
    rw [hb];rfl
theorem bx_go {ts:List bW} (h:xW ts=true) (a:Option Addr) (c:Nat):∃ s',bx 8 ⟨a,c,ts⟩=some (bxB ts,s'):=by
  obtain ⟨hl,hw,hf,_⟩:=vl_get h
  exact bx_goW hl.2 hw (fds_fws hf) a c
structure TqL (s s':Tq):Prop where
  t:∀ w,bM w s.ta s.tc s.ts→bM w s'.ta s'.tc s'.ts
  m:∀ x∈s'.ts,x∈s.ts
theorem TqL.go {s:Tq} (h:0<s.ts.length):TqL s s.go:=⟨fun _ hw=>hw.tail h,fun _ hx=>List.mem_of_mem_tail hx⟩
theorem TqL.trans {a b c:Tq} (h:TqL a b) (k:TqL b c):TqL a c:=⟨fun w x=>k.t w (h.t w x),fun x hx=>h.m x (k.m x hx)⟩
theorem yS : ∀ (f : Nat) (s : Tq) (b : List UInt8) (s' : Tq), bx f s = some (b, s') → TqL s s'
  | 0,_,_,_,h=>by simp [bx] at h
  | f + 1, s, b, s', h => by
    unfold bx at h
    split at h
    · exact absurd h (by simp)
    rename_i hc
    have hg:TqL s s.go:=TqL.go (by omega)
    split at h
    · simp only [Option.some.injEq,Prod.mk.injEq] at h;rw [← h.2];exact hg
    split at h
    · simp only [Option.some.injEq,Prod.mk.injEq] at h;rw [← h.2];exact hg
    split at h
    · exact absurd h (by simp)
    rename_i a s1 e1
    have h1:=hg.trans (yS f _ _ _ e1)
    split at h
    · split at h
      · exact absurd h (by simp)
      · rename_i b2 s2 e2
        simp only [Option.some.injEq,Prod.mk.injEq] at h;rw [← h.2];exact h1.trans (yS f _ _ _ e2)
    · split at h
      · simp only [Option.some.injEq,Prod.mk.injEq] at h;rw [← h.2];exact h1
      · exact absurd h (by simp)
def TxS (ts:List bW):Prop:=∀ t∈ts,∀ p∈t.ks,p.tx.length≤500000
theorem ksT_len:∀ ks:List dO,(∀ p∈ks,p.tx.length≤500000)→(xM ks).length≤500001*ks.length
  | [],_=>Nat.zero_le _
  | x :: r, h => by
    have h1:=h x (List.mem_cons_self ..)
    have h2:=ksT_len r (fun y hy=>h y (List.mem_cons_of_mem _ hy))
    show (([44]++x.tx)++xM r).length≤_
    simp only [List.length_append,List.length_cons,List.length_nil];omega
theorem ksT_next {l:List dO} {i:Nat} (h:i<l.length):xM (l.take (i+1))=xM (l.take i)++([44]++(gK l i).tx):=by
  rw [List.take_succ_eq_append_getElem h]
  unfold xM gK
  rw [List.flatMap_append,List.getD_eq_getElem?_getD,List.getElem?_eq_getElem h]
  simp
theorem arT_len {kd:Int} {nu h:Nat} (hn:nu<4294967296):(arT kd nu h).length≤100:=by
  have:=kP (n:=nu) (by omega)
  unfold arT
  split
  · simp only [List.length_append,List.length_cons,List.length_nil];omega
  split
  · simp only [List.length_append,List.length_cons,List.length_nil];omega
  · simp only [List.length_append,List.length_cons,List.length_nil,eG,aO];omega
theorem bx_len : ∀ (f : Nat) (s : Tq) (b : List UInt8) (s' : Tq), TxS s.ts → mP s.ts → bx f s = some (b, s') → b.length + 1000 ≤ 20000000000 * 2 ^ f
  | 0,_,_,_,_,_,h=>by simp [bx] at h
  | f + 1, s, b, s', hq, ho, h => by
    have hp:20000000000*2^(f+1)=20000000000*2^f+20000000000*2^f:=by rw [Nat.pow_succ];omega
    have h1:20000000000≤20000000000*2^f:=Nat.le_mul_of_pos_right _ (Nat.two_pow_pos f)
    unfold bx at h
    split at h
    · exact absurd h (by simp)
    rename_i hc
    have h0:0<s.ts.length:=by omega
    have hfd:s.fst.fw=true:=by
      cases e:s.fst.fw with
      | true=>rfl
      | false=>exact absurd (Or.inr e) hc
    have hF:=fw_iff hfd
    have hm:s.fst∈s.ts:=xAE h0
    have hg:TqL s s.go:=TqL.go h0
    split at h
    · rename_i hk
      have hks:0<s.fst.ks.length:=by have:=hF.1 hk;omega
      have:=hq _ hm _ (nU hks)
      simp only [Option.some.injEq,Prod.mk.injEq] at h;rw [← h.1]
      unfold nK;simp only [List.length_append,List.length_cons,List.length_nil];omega
    split at h
    · rename_i hk
      have h2:=hF.2.1 hk
      have:=ksT_len s.fst.ks (hq _ hm)
      have h3:=kP (n:=s.fst.m.toNat) (by omega)
      simp only [Option.some.injEq,Prod.mk.injEq] at h;rw [← h.1]
      unfold nY;simp only [List.length_append,List.length_cons,List.length_nil];omega
    split at h
    · exact absurd h (by simp)
    rename_i a s1 e1
    have ha:=bx_len f _ _ _ (fun t ht=>hq t (hg.m t ht)) (fun t ht=>ho t (hg.m t ht)) e1
    have l1:=hg.trans (yS f _ _ _ e1)
    split at h
    · split at h
      · exact absurd h (by simp)
      · rename_i b2 s2 e2
        have hb:=bx_len f _ _ _ (fun t ht=>hq t (l1.m t ht)) (fun t ht=>ho t (l1.m t ht)) e2
        simp only [Option.some.injEq,Prod.mk.injEq] at h;rw [← h.1]
        unfold eiT;simp only [List.length_append,List.length_cons,List.length_nil];omega
    · split at h
      · have := arT_len (kd := s.fst.kd) (h := s.fst.h) (ho _ hm).1.nu
        simp only [Option.some.injEq,Prod.mk.injEq] at h;rw [← h.1]
        unfold slT;simp only [List.length_append,List.length_cons,List.length_nil];omega
      · exact absurd h (by simp)
def kZ (kd:Int):List UInt8:=if kd=1 then [107,101,121] else if kd=2 then [109,117,108,116,105] else if kd=3 then [97,102,116,101,114] else if kd=4 then [111,108,100,101,114] else if kd=5 then [104,97,115,104] else [101,105,116,104,101,114]
theorem jY (kd:Int):3≤(kZ kd).length∧(kZ kd).length≤6:=by
  unfold kZ
  repeat' split
  all_goals decide
section
variable {kd m : Int} {nu h i : Nat} {x y S : List UInt8} {ks : List dO} {p : dO}
theorem kb1 (k:kd=1):((kZ kd++[40])++([]++p.tx))++[41]=nK p:=by subst k;rfl
theorem kb2 (k:kd=2) (hi:ks.length≤i) (hS:S=((kZ kd++[40])++([]++dS m.toNat))++xM (ks.take i)):S++[41]=nY m ks:=by
  subst k;rw [hS,List.take_of_length_le hi];rfl
theorem kb_n (h:i<ks.length) {E:List UInt8} (hS:S=E++xM (ks.take i)):S++([44]++(gK ks i).tx)=E++xM (ks.take (i+1)):=by rw [hS,ksT_next h,List.append_assoc]
theorem kb_len {E:List UInt8} (hS:S=E++xM (ks.take i)) (hq:∀ p∈ks,p.tx.length≤500000):S.length≤E.length+500001*ks.length:=by
  have h1:=ksT_len (ks.take i) (fun p hp=>hq p (List.mem_of_mem_take hp))
  have h2:(ks.take i).length≤ks.length:=List.length_take_le' i ks
  rw [hS,List.length_append];omega
theorem kb_ge {E:List UInt8} (hS:S=E++xM (ks.take i)):E.length≤S.length:=by rw [hS,List.length_append];omega
theorem sl3 (k:kd=3):(((kZ kd++[40])++([]++dS nu))++([44]++x))++[41]=slT kd nu h x:=by
  subst k;unfold slT arT kZ;simp
theorem sl4 (k:kd=4):(((kZ kd++[40])++([]++dS nu))++([44]++x))++[41]=slT kd nu h x:=by
  subst k;unfold slT arT kZ;simp
theorem sl5 (k:kd=5):(((kZ kd++[40])++([]++l7 (hL h)))++([44]++x))++[41]=slT kd nu h x:=by
  subst k;unfold slT arT kZ;simp
theorem kb6 (k:kd=6):(((kZ kd++[40])++([]++x))++([44]++y))++[41]=eiT x y:=by
  subst k;unfold eiT kZ;simp
end
theorem bxB_len {ts:List bW} (hv:xW ts=true) (ho:mP ts):TxS ts∧(bxB ts).length≤5200000000000:=by
  have hq:TxS ts:=fun t ht p hp=>by
    have h8:p.ps.length≤8:=by
      obtain ⟨_,_,_,hk⟩:=vl_get hv
      have h1:=List.all_eq_true.1 hk t ht
      have h2:=List.all_eq_true.1 h1 p hp
      unfold dO.vp at h2
      simp only [Bool.and_eq_true,decide_eq_true_eq] at h2
      exact h2.1
    exact Nat.le_trans (kpT_len ((ho t ht).2 p hp).ps h8) (by decide)
  refine ⟨hq,?_⟩
  obtain ⟨s',h⟩:=bx_go hv none 0
  have:=bx_len 8 _ _ _ hq ho h
  omega
theorem tm_hash (kd m nu:Int) (h:Nat) (x:Value) (j:Nat) (hj:j<32):(iC kd m nu h x)[3+j]? = (hB h)[j]? := by
  unfold iC
  rw [Array.getElem?_append_left (by simp [yV];omega),Array.getElem?_append_right (by simp),show 3+j-(#[Value.int .i64 kd,.int .i64 m,.int .u32 nu]).size=j by simp]
theorem Bs.of_term {w:World} {g:Nat} {t:bW} {T:TypeId} {fr:Nat × Nat} (hb:w.heap[g]? = some (.cells t.row T fr)):Bs w (some ⟨g,3,none⟩) 32 (hL t.h):=by
  refine ⟨by rw [aO];exact Nat.le_refl _,by rw [aO];decide,Or.inr ⟨_,rfl,fun j v hv=>?_⟩⟩
  have hj:j<32:=by
    have:=(List.getElem?_eq_some_iff.1 hv).1
    rw [dH,aO] at this;exact this
  have h1:(hB t.h)[j]? = some v:=by
    have hh:=xBR t.h
    unfold Hd at hh
    rw [← hh,List.getElem?_take,if_pos (by rw [aO];exact hj)] at hv
    simpa using hv
  rw [show (⟨g,3,none⟩:Addr).add j=⟨g,3+j,none⟩ by simp [Addr.add]]
  unfold World.cell?
  simp only [hb]
  rw [← h1,← tm_hash t.kd t.m ((t.nu:Nat):Int) t.h (.slice t.ka t.ks.length t.kc) j hj]
  simp [bW.row]
section
variable {P : Program} {t : TypeId} {k : IntKind} {S : List UInt8} {z : Int} {n : Nat}
theorem wK (ht:P.underlying t=some .string) (hz:z=(n:Int)) (hn:n≤S.length) (w:World) :
    (do pure (Next.value (← Instr.sliceAt t (.string (gY S)) none (some (.int k z)) none)):Sem Next).run P w=.ok (.value (.string (gY (S.take n)))) w:=by
  subst hz
  have h:=run_slice_string_h (P:=P) (t:=t) (s:=gY S) (w:=w) ht k (n:Int) (by omega) (by show (n:Int)≤((gY S).size:Int);exact Int.ofNat_le.2 hn)
  have e:(gY S).extract 0 (n:Int).toNat=gY (S.take n):=by
    apply ByteArray.ext
    rw [ByteArray.data_extract]
    simp [gY]
  rw [e] at h
  simp only [Instr.sliceAt,Sem.run_bind,run_underlying ht,Result.andThen_ok,h,Sem.run_pure]
theorem yK (ht:P.underlying t=some .string) (hz:z=(n:Int)) (hn:n≤S.length) (w:World) :
    (do pure (Next.value (← Instr.sliceAt t (.string (gY S)) (some (.int k z)) none none)):Sem Next).run P w=.ok (.value (.string (gY (S.drop n)))) w:=by
  subst hz
  have h:=run_slice_string_l (P:=P) (t:=t) (s:=gY S) (w:=w) ht k (n:Int) (by omega) (by show (n:Int)≤((gY S).size:Int);exact Int.ofNat_le.2 hn)
  have e:(gY S).extract (n:Int).toNat (gY S).size=gY (S.drop n):=by
    apply ByteArray.ext
    rw [ByteArray.data_extract]
    have:(gY S).size=S.length:=rfl
    rw [this]
    show (S.toArray.extract n S.length)=(S.drop n).toArray
    rw [List.extract_toArray,List.extract_eq_take_drop,List.take_of_length_le (by rw [List.length_drop];exact Nat.le_refl _)]
  rw [e] at h
  simp only [Instr.sliceAt,Sem.run_bind,run_underlying ht,Result.andThen_ok,h,Sem.run_pure]
end
theorem pre_yes (W R:List UInt8):Lib.hasPrefix (W++R) W=true∧Lib.trimPrefix (W++R) W=R:=by
  have h:Lib.hasPrefix (W++R) W=true:=by simp [Lib.hasPrefix]
  exact ⟨h,by simp [Lib.trimPrefix,h]⟩
def xAG (b:UInt8):Bool:=decide (48≤b.toNat)&&decide (b.toNat≤57)
def xC:List UInt8→Nat
  | []=>0
  | b::r=>if xAG b=true then xC r+1 else 0
theorem yH (b:UInt8):xAG b=true↔48≤b.toNat∧b.toNat≤57:=by unfold xAG;rw [Bool.and_eq_true,decide_eq_true_eq,decide_eq_true_eq]
section
variable {L : List UInt8} {i : Nat}
theorem dgN_at (h:i<L.length):xC (L.drop i)=if xAG (L.getD i 0)=true then xC (L.drop (i+1))+1 else 0:=by
  rw [List.drop_eq_getElem_cons h,xC,List.getD_eq_getElem?_getD,List.getElem?_eq_getElem h];rfl
theorem dgN_next (h:i<L.length) (h1:decide ((48:Int)≤((gB L i:Nat):Int))=true) (h2:decide (((gB L i:Nat):Int)≤57)=true) (hr:xC (L.drop i)+i=xC L):xC (L.drop (i+1))+(i+1)=xC L:=by
  have a:=of_decide_eq_true h1
  have b:=of_decide_eq_true h2
  unfold gB at a b
  rw [dgN_at h,if_pos ((yH _).2 ⟨by omega,by omega⟩)] at hr
  omega
theorem dgN_e0 (h:L.length≤i) (hr:xC (L.drop i)+i=xC L):i=xC L:=by
  rw [List.drop_eq_nil_of_le h,xC] at hr;omega
theorem dgN_eA (h:i<L.length) (h1:decide ((48:Int)≤((gB L i:Nat):Int))=false) (hr:xC (L.drop i)+i=xC L):i=xC L:=by
  have a:=of_decide_eq_false h1
  unfold gB at a
  rw [dgN_at h,if_neg (fun q=>by have:=(yH _).1 q;omega)] at hr
  omega
theorem dgN_eB (h:i<L.length) (h1:decide (((gB L i:Nat):Int)≤57)=false) (hr:xC (L.drop i)+i=xC L):i=xC L:=by
  have a:=of_decide_eq_false h1
  unfold gB at a
  rw [dgN_at h,if_neg (fun q=>by have:=(yH _).1 q;omega)] at hr
  omega
end
theorem dgN_app:∀ (D R:List UInt8),(∀ b∈D,xAG b=true)→(∀ b,R.head? = some b→xAG b=false)→xC (D++R)=D.length
  | [],[],_,_=>rfl
  | [], b :: R, _, h => by
    show xC (b::R)=0
    rw [xC,h b rfl];rfl
  | b :: D, R, h1, h2 => by
    show xC (b::(D++R))=_
    rw [xC,if_pos (h1 b (List.mem_cons_self ..)),dgN_app D R (fun x hx=>h1 x (List.mem_cons_of_mem _ hx)) h2];rfl
theorem txW {x:Nat} (h:x≤2^32-1):IntKind.u32.wrap (x:Int)=(x:Int):=by rw [IntKind.wrap_u32];omega
theorem puM_snoc {N d : Nat} {c : UInt8} (hc : 48 ≤ c.toNat ∧ c.toNat ≤ 57) (hd : c.toNat - 48 = d) : ∀ (D : List UInt8) (acc u : Nat), Lib.parseUintM N acc D = .ok u → u < 1844674407370955162 → u * 10 + d ≤ N → Lib.parseUintM N acc (D ++ [c]) = .ok (u * 10 + d)
  | [], acc, u, h, h1, h2 => by
    rw [Lib.parseUintM] at h
    injection h with h
    subst h
    show Lib.parseUintM N acc [c]=_
    rw [Lib.parseUintM,if_pos hc,if_neg (by omega),hd,if_neg (by omega),Lib.parseUintM]
  | b :: D, acc, u, h, h1, h2 => by
    rw [Lib.parseUintM] at h
    show Lib.parseUintM N acc (b::(D++[c]))=_
    rw [Lib.parseUintM]
    split at h
    · rename_i a
      rw [if_pos a]
      split at h
      · exact absurd h (by simp)
      · rename_i a2
        rw [if_neg a2]
        split at h
        · exact absurd h (by simp)
        · rename_i a3
          rw [if_neg a3]
          exact puM_snoc hc hd D _ u h h1 h2
    · exact absurd h (by simp)
theorem puM_dS (N:Nat) (hN:N<18446744073709551616):∀ n,n≤N→Lib.parseUintM N 0 (dS n)=.ok n
  | n, h => by
    have hc:48≤(UInt8.ofNat (48+n%10)).toNat∧(UInt8.ofNat (48+n%10)).toNat≤57:=by
      rw [UInt8.toNat_ofNat'];omega
    have hd:(UInt8.ofNat (48+n%10)).toNat-48=n%10:=by
      rw [UInt8.toNat_ofNat'];omega
    unfold dS
    by_cases h9:n<10
    · rw [Lib.decDigits, dif_pos h9]
      have:=puM_snoc (N:=N) (d:=n) (c:=UInt8.ofNat (48+n)) (by rw [UInt8.toNat_ofNat'];omega) (by rw [UInt8.toNat_ofNat'];omega) [] 0 0 (by rw [Lib.parseUintM]) (by decide) (by omega)
      simpa using this
    · rw [Lib.decDigits, dif_neg h9]
      have ih:=puM_dS N hN (n / 10) (by omega)
      have:=puM_snoc hc hd (Lib.decDigits (n / 10)) 0 (n / 10) ih (by omega) (by omega)
      rw [this]
      congr 1
      omega
theorem dS_ne (n:Nat):dS n≠[]:=fun h=>by
  have:=Lib.decDigits_length n
  unfold dS at h
  rw [h] at this
  have h1:1≤Lib.nDigits n:=by
    by_cases q:n<10
    · rw [Lib.nDigits_small q];exact Nat.le_refl _
    · rw [Lib.nDigits_big q];omega
  simp at this
  omega
theorem pu_dS {n:Nat} (h:n<4294967296):Lib.parseUintB 32 (dS n)=.ok n:=by
  unfold Lib.parseUintB
  rw [if_neg (dS_ne n)]
  exact puM_dS _ (by decide) n (by omega)
theorem dS_dig:∀ n,∀ b∈dS n,xAG b=true
  | n, b, h => by
    unfold dS at h
    by_cases h9:n<10
    · rw [Lib.decDigits, dif_pos h9] at h
      rw [List.mem_singleton.1 h,yH,UInt8.toNat_ofNat'];omega
    · rw [Lib.decDigits, dif_neg h9] at h
      rcases List.mem_append.1 h with q | q
      · exact dS_dig (n / 10) b q
      · rw [List.mem_singleton.1 q,yH,UInt8.toNat_ofNat'];omega
theorem num_at {n:Nat} {R:List UInt8} (hR:∀ b,R.head? = some b→xAG b=false):(dS n++R).take (xC (dS n++R))=dS n∧(dS n++R).drop (xC (dS n++R))=R:=by
  rw [dgN_app _ _ (dS_dig n) hR]
  exact ⟨List.take_left' rfl,List.drop_left' rfl⟩
theorem dg_hexD {x:Nat} (h:x<16):dg (hexD x)=x∧dgB (hexD x)=true:=by
  revert x
  decide
theorem gB_cons (x:UInt8) (B:List UInt8) (i:Nat):gB (x::B) (i+1)=gB B i:=rfl
theorem gB_hx (B:List UInt8):∀ j,j<B.length→gB (l7 B) (2*j)=hexD (gB B j / 16)∧gB (l7 B) (2*j+1)=hexD (gB B j%16):=by
  induction B with
  | nil=>intro j h;simp at h
  | cons x B ih =>
    have hx:=UInt8.toNat_lt x
    have e:l7 (x::B)=ob ((hexD (x.toNat / 16):Nat):Int)::ob ((hexD (x.toNat%16):Nat):Int)::l7 B:=rfl
    intro j h
    cases j with
    | zero=>exact ⟨ob_lt (hexD_lt (by omega)),ob_lt (hexD_lt (by omega))⟩
    | succ j =>
      have:=ih j (by simpa using h)
      rw [e,gB_cons]
      exact this
theorem hx_digits (B:List UInt8):∀ i,i<2*B.length→dgB (gB (l7 B) i)=true:=by
  intro i hi
  have h:=gB_hx B (i / 2) (by omega)
  have h256:=iD B (i / 2)
  rcases Nat.mod_two_eq_zero_or_one i with e | e
  · rw [show i=2*(i / 2) by omega,h.1];exact (dg_hexD (by omega)).2
  · rw [show i=2*(i / 2)+1 by omega,h.2];exact (dg_hexD (by omega)).2
theorem hx_bytes (B:List UInt8):uhP (l7 B) B.length=B:=by
  apply List.ext_getElem
  · rw [uhP_length]
  · intro j h1 h2
    have h:=gB_hx B j h2
    have h256:=iD B j
    simp only [uhP,List.getElem_map,List.getElem_range]
    rw [uh1,h.1,h.2,(dg_hexD (by omega)).1,(dg_hexD (by omega)).1,show 16*(gB B j / 16)+gB B j%16=gB B j by omega,gB_ob]
    simp [List.getD,List.getElem?_eq_getElem h2]
theorem hx_back {B:List UInt8} (h:B.length≤200000):uhR (l7 B)=(B,0):=by
  have hl:=eG B
  refine uh_ok (i:=(l7 B).length) (by omega) (by omega) (Nat.le_refl _) (fun j hj=>hx_digits B j (by omega)) ?_
  rw [hl,show 2*B.length / 2=B.length by omega,hx_bytes]
theorem hx_back_x {B:List UInt8} (h:B.length≤200000):uhX (l7 B)=B:=(uh_x (hx_back h)).symm
theorem hx_back_e {B:List UInt8} (h:B.length≤200000):uhE (l7 B)=0:=by unfold uhE;rw [hx_back h]
def numO (L:List UInt8):Bool:=match Lib.parseUintB 32 (L.take (xC L)) with
  | .ok _=>true
  | _=>false
def bT (L:List UInt8):Nat:=match Lib.parseUintB 32 (L.take (xC L)) with
  | .ok u=>u
  | _=>0
def eP (L:List UInt8):List UInt8:=if numO L=true then L.drop (xC L) else L
theorem num_t {L:List UInt8} (h:numO L=true):Lib.parseUintB 32 (L.take (xC L))=.ok (bT L):=by
  unfold numO at h
  unfold bT
  cases e:Lib.parseUintB 32 (L.take (xC L))<;>rw [e] at h<;>simp_all
theorem num_f {L:List UInt8} (h:numO L=false):∀ u,Lib.parseUintB 32 (L.take (xC L))≠.ok u:=fun u e=>by
  unfold numO at h
  rw [e] at h
  exact Bool.noConfusion h
theorem numV_f {L:List UInt8} (h:numO L=false):bT L=0:=by
  unfold bT
  cases e:Lib.parseUintB 32 (L.take (xC L)) with
  | ok u=>exact absurd e (num_f h u)
  | _=>rfl
theorem numV_lt (L:List UInt8):bT L<4294967296:=by
  cases h:numO L with
  | false=>rw [numV_f h];decide
  | true=>have:=Lib.parseUintB_le (num_t h);omega
theorem numL_t {L:List UInt8} (h:numO L=true):eP L=L.drop (xC L):=by unfold eP;rw [if_pos h]
theorem kE (L:List UInt8):(eP L).length≤L.length:=by
  unfold eP;split
  · rw [List.length_drop];omega
  · exact Nat.le_refl _
theorem gX (L W:List UInt8):(Lib.trimPrefix L W).length≤L.length:=by
  unfold Lib.trimPrefix;split
  · rw [List.length_drop];omega
  · exact Nat.le_refl _
theorem tZ {L:List UInt8} {b:UInt8} {W:List UInt8} (h:Lib.hasPrefix L (b::W)=true):(Lib.trimPrefix L (b::W)).length+(W.length+1)=L.length:=by
  unfold Lib.trimPrefix
  rw [if_pos h,List.length_drop]
  unfold Lib.hasPrefix at h
  have h1:=List.IsPrefix.length_le (List.isPrefixOf_iff_prefix.1 h)
  rw [List.length_cons] at h1
  rw [List.length_cons];omega
theorem trim_no {L W:List UInt8} (h:Lib.hasPrefix L W=false):Lib.trimPrefix L W=L:=by unfold Lib.trimPrefix;rw [h];rfl
def fO (n:Nat) (L:List UInt8):List UInt8:=if 2*n≤L.length then uhX (L.take (2*n)) else []
def rbO (n:Nat) (L:List UInt8):Bool:=if 2*n≤L.length then uhE (L.take (2*n))==0 else false
def qV (n:Nat) (L:List UInt8):List UInt8:=if 2*n≤L.length then L.drop (2*n) else L
theorem vC (n:Nat) (L:List UInt8):(qV n L).length≤L.length:=by
  unfold qV;split
  · rw [List.length_drop];omega
  · exact Nat.le_refl _
theorem rb_t {n:Nat} {L:List UInt8} (h:2*n≤L.length):fO n L=uhX (L.take (2*n))∧rbO n L=(uhE (L.take (2*n))==0)∧qV n L=L.drop (2*n):=by
  unfold fO rbO qV;rw [if_pos h,if_pos h,if_pos h];exact ⟨rfl,rfl,rfl⟩
theorem rb_f {n:Nat} {L:List UInt8} (h: ¬ 2*n≤L.length):fO n L=[]∧rbO n L=false∧qV n L=L:=by
  unfold fO rbO qV;rw [if_neg h,if_neg h,if_neg h];exact ⟨rfl,rfl,rfl⟩
def uP (k:Int):List UInt8:=if k=1 then [107,101,121]++[40] else if k=2 then [109,117,108,116,105]++[40] else if k=3 then [97,102,116,101,114]++[40] else if k=4 then [111,108,100,101,114]++[40] else if k=5 then [104,97,115,104]++[40] else [101,105,116,104,101,114]++[40]
def fD (L:List UInt8):Int:=if Lib.hasPrefix L (uP 1)=true then 1 else if Lib.hasPrefix L (uP 2)=true then 2 else if Lib.hasPrefix L (uP 3)=true then 3 else if Lib.hasPrefix L (uP 4)=true then 4 else if Lib.hasPrefix L (uP 5)=true then 5 else if Lib.hasPrefix L (uP 6)=true then 6 else 0
def bQ (L:List UInt8):List UInt8:=if fD L=0 then L else Lib.trimPrefix L (uP (fD L))
theorem jX (L:List UInt8):0≤fD L∧fD L≤6:=by
  unfold fD
  repeat' split
  all_goals decide
theorem iQ (L:List UInt8):(bQ L).length≤L.length:=by
  unfold bQ;split
  · exact Nat.le_refl _
  · exact gX _ _
section
variable {L : List UInt8}
theorem kdI_0 (h1:Lib.hasPrefix L (uP 1)=false) (h2:Lib.hasPrefix L (uP 2)=false) (h3:Lib.hasPrefix L (uP 3)=false) (h4:Lib.hasPrefix L (uP 4)=false) (h5:Lib.hasPrefix L (uP 5)=false) (h6:Lib.hasPrefix L (uP 6)=false):fD L=0∧bQ L=L:=by
  have e:fD L=0:=by unfold fD;rw [h1,h2,h3,h4,h5,h6];rfl
  exact ⟨e,by unfold bQ;rw [if_pos e]⟩
theorem kdI_1 (h1:Lib.hasPrefix L (uP 1)=true):fD L=1∧bQ L=Lib.trimPrefix L (uP 1):=by
  have e:fD L=1:=by unfold fD;rw [h1];rfl
  exact ⟨e,by unfold bQ;rw [e,if_neg (by decide)]⟩
theorem kdI_2 (h1:Lib.hasPrefix L (uP 1)=false) (h2:Lib.hasPrefix L (uP 2)=true):fD L=2∧bQ L=Lib.trimPrefix L (uP 2):=by
  have e:fD L=2:=by unfold fD;rw [h1,h2];rfl
  exact ⟨e,by unfold bQ;rw [e,if_neg (by decide)]⟩
theorem kdI_3 (h1:Lib.hasPrefix L (uP 1)=false) (h2:Lib.hasPrefix L (uP 2)=false) (h3:Lib.hasPrefix L (uP 3)=true):fD L=3∧bQ L=Lib.trimPrefix L (uP 3):=by
  have e:fD L=3:=by unfold fD;rw [h1,h2,h3];rfl
  exact ⟨e,by unfold bQ;rw [e,if_neg (by decide)]⟩
theorem kdI_4 (h1:Lib.hasPrefix L (uP 1)=false) (h2:Lib.hasPrefix L (uP 2)=false) (h3:Lib.hasPrefix L (uP 3)=false) (h4:Lib.hasPrefix L (uP 4)=true):fD L=4∧bQ L=Lib.trimPrefix L (uP 4):=by
  have e:fD L=4:=by unfold fD;rw [h1,h2,h3,h4];rfl
  exact ⟨e,by unfold bQ;rw [e,if_neg (by decide)]⟩
theorem kdI_5 (h1:Lib.hasPrefix L (uP 1)=false) (h2:Lib.hasPrefix L (uP 2)=false) (h3:Lib.hasPrefix L (uP 3)=false) (h4:Lib.hasPrefix L (uP 4)=false) (h5:Lib.hasPrefix L (uP 5)=true):fD L=5∧bQ L=Lib.trimPrefix L (uP 5):=by
  have e:fD L=5:=by unfold fD;rw [h1,h2,h3,h4,h5];rfl
  exact ⟨e,by unfold bQ;rw [e,if_neg (by decide)]⟩
theorem kdI_6 (h1:Lib.hasPrefix L (uP 1)=false) (h2:Lib.hasPrefix L (uP 2)=false) (h3:Lib.hasPrefix L (uP 3)=false) (h4:Lib.hasPrefix L (uP 4)=false) (h5:Lib.hasPrefix L (uP 5)=false) (h6:Lib.hasPrefix L (uP 6)=true):fD L=6∧bQ L=Lib.trimPrefix L (uP 6):=by
  have e:fD L=6:=by unfold fD;rw [h1,h2,h3,h4,h5,h6];rfl
  exact ⟨e,by unfold bQ;rw [e,if_neg (by decide)]⟩
end
structure Pth where
  o:Bool
  s:List Nat
  w:Bool
  l:List UInt8
def wR : Nat → List Nat → List UInt8 → Pth
  | 0,_,L=>⟨false,[],false,L⟩
  | f + 1, a, L =>
    if Lib.hasPrefix L [47]=false then ⟨true,a,false,L⟩ else
    if Lib.hasPrefix (Lib.trimPrefix L [47]) [42]=true then ⟨true,a,true,Lib.trimPrefix (Lib.trimPrefix L [47]) [42]⟩ else
    if numO (Lib.trimPrefix L [47])=false then ⟨false,[],false,Lib.trimPrefix L [47]⟩ else
    if 2147483648≤bT (Lib.trimPrefix L [47]) then ⟨false,[],false,eP (Lib.trimPrefix L [47])⟩ else
    if Lib.hasPrefix (eP (Lib.trimPrefix L [47])) [104]=true then wR f (a++[bT (Lib.trimPrefix L [47])+2147483648]) (Lib.trimPrefix (eP (Lib.trimPrefix L [47])) [104]) else
    wR f (a++[bT (Lib.trimPrefix L [47])]) (eP (Lib.trimPrefix L [47]))
def jC (L:List UInt8):Pth :=
  if rbO 74 L=false then ⟨false,[],false,qV 74 L⟩ else
  if kdE (fO 74 L)≠0 then ⟨false,[],false,qV 74 L⟩ else wR ((qV 74 L).length+1) [] (qV 74 L)
def lQ (L:List UInt8):Ky:=if (jC L).o=true then iU (fO 74 L) else Ky.z
def rpA (L:List UInt8):dO:=⟨lQ L,(jC L).s,(jC L).w,none,0⟩
structure Rks where
  o:Bool
  ks:List dO
  l:List UInt8
def ksR : Nat → List dO → List UInt8 → Rks
  | 0,a,L=>⟨false,a,L⟩
  | f + 1, a, L =>
    if Lib.hasPrefix L [44]=false then ⟨true,a,L⟩ else
    if (jC (Lib.trimPrefix L [44])).o=false then ⟨false,a++[rpA (Lib.trimPrefix L [44])],(jC (Lib.trimPrefix L [44])).l⟩ else
    ksR f (a++[rpA (Lib.trimPrefix L [44])]) (jC (Lib.trimPrefix L [44])).l
structure Rhd where
  o:Bool
  t:bW
  l:List UInt8
def tz (kd m:Int) (nu h:Nat) (ks:List dO):bW:=⟨kd,m,nu,h,ks,none,0⟩
def vJ (k : Int) (L : List UInt8) : Rhd :=
  if k=1 then ⟨(jC L).o,tz k 0 0 0 [rpA L],(jC L).l⟩ else
  if k = 2 then
    (if numO L=false then ⟨false,tz k 0 0 0 [],L⟩ else
     if Lib.hasPrefix (eP L) [44]=false then ⟨false,tz k (bT L) 0 0 [],eP L⟩ else
     if (jC (Lib.trimPrefix (eP L) [44])).o=false then ⟨false,tz k (bT L) 0 0 [rpA (Lib.trimPrefix (eP L) [44])],(jC (Lib.trimPrefix (eP L) [44])).l⟩ else
     (fun y:Rks=>⟨y.o,tz k (bT L) 0 0 y.ks,y.l⟩) (ksR ((jC (Lib.trimPrefix (eP L) [44])).l.length+1) [rpA (Lib.trimPrefix (eP L) [44])] (jC (Lib.trimPrefix (eP L) [44])).l)) else
  if k=3∨k=4 then (if numO L=false then ⟨false,tz k 0 0 0 [],L⟩ else ⟨Lib.hasPrefix (eP L) [44],tz k 0 (bT L) 0 [],Lib.trimPrefix (eP L) [44]⟩) else
  if k=5 then (if rbO 32 L=false then ⟨false,tz k 0 0 0 [],qV 32 L⟩ else ⟨Lib.hasPrefix (qV 32 L) [44],tz k 0 0 (nB ((fO 32 L).take 32)) [],Lib.trimPrefix (qV 32 L) [44]⟩) else
  ⟨true,tz k 0 0 0 [],L⟩
structure Rtm where
  o:Bool
  ts:List bW
  l:List UInt8
def rcl (x:Rtm):Rtm:=if x.o=false then x else ⟨Lib.hasPrefix x.l [41],x.ts,Lib.trimPrefix x.l [41]⟩
def gW : Nat → List bW → List UInt8 → Rtm
  | 0,a,L=>⟨false,a,L⟩
  | f + 1, a, L =>
    if fD L=0 then ⟨false,a,L⟩ else
    if a.length=8 then ⟨false,a,bQ L⟩ else
    (fun x:Rhd =>
      if x.o=false then ⟨false,a,x.l⟩ else
      if fD L=1∨fD L=2 then rcl ⟨true,a++[x.t],x.l⟩ else
      if fD L=6 then
        (fun y:Rtm=>if y.o=false then y else if Lib.hasPrefix y.l [44]=false then ⟨false,y.ts,y.l⟩ else rcl (gW f y.ts (Lib.trimPrefix y.l [44]))) (gW f (a++[x.t]) x.l)
      else rcl (gW f (a++[x.t]) x.l)) (vJ (fD L) (bQ L))
open Go Go.Shelf Go.Proofs Go.RowKit
def ErC (w:World) (g:Nat):Prop:=∃ ev,w.cell? ⟨g,0,none⟩=some ev∧(ev=.nilIface∨∃ te pe,ev=.iface te pe)
def qI (w:World):Prop:=ErC w 3∧ErC w 4
theorem ErC.pers0 {w:World} {g:Nat} (h:ErC w g):dL (fun _=>False) (fun w=>ErC w g) w:=by
  obtain ⟨ev,h1,h2⟩:=h
  have hlt:g<w.heap.size:=Lib.lt_of_cell h1
  refine ⟨fun b=>b=g,fun b hb=>⟨by rw [hb];exact hlt,id⟩,fun w' hw=>⟨ev,?_,h2⟩⟩
  rw [← h1]
  unfold World.cell?
  simp only [hw g rfl]
theorem qI.pers0 {w:World} (h:qI w):dL (fun _=>False) (fun w=>qI w) w:=(h.1.pers0.and h.2.pers0).mono (fun _ k=>k)
theorem neq_ifc {P:Program} {t:TypeId} {ms:Array (String × TypeId)} (ht:P.underlying t=some (.interface ms)) (T:TypeId) (p:Option Addr) (w:World):(binOp .neq t (.iface T (.pointer p)) .nilIface).run P w=.ok (.bool true) w:=by
  have h:∀ d:Nat,(Op.equalIn (d+2) t (.iface T (.pointer p)) .nilIface).run P w=.ok false w:=fun d=>by simp [Op.equalIn,run_underlying ht]
  simp only [binOp]
  simp [Op.equal,Op.maxDepth,h 9998]
theorem xAK (S:List UInt8) (h:∀ u,Lib.parseUintB 32 S≠.ok u) (hl:S.length≤1000000000) (w:World) (hE:qI w):Calls Tryz.prog 82 #[.string (gY S),.int .i64 10,.int .i64 32] w (fun ε w'=>∃ α κ,ε=.returned (.tuple #[.int .u64 ((κ:Nat):Int),.iface 172 (.pointer α)])∧Below w.heap.size w w'∧Fs w w' α κ []):=by
  cases e:Lib.parseUintB 32 S with
  | ok u=>exact absurd e (h u)
  | range =>
    obtain ⟨ev,h1,h2⟩:=hE.2
    exact (Any.strconv_ParseUint_10_at32_range laysPu14 (gY S) (by show S.length≤_;omega) e ev w h1 h2).mono fun ε w' ⟨N,q1,_,_,q4⟩=>⟨some ⟨N,0,none⟩,4294967295,q1,q4,Fs.nil⟩
  | _ =>
    obtain ⟨ev,h1,h2⟩:=hE.1
    exact (Any.strconv_ParseUint_10_at32_syntax laysPu14 (gY S) (by show S.length≤_;omega) e ev w h1 h2).mono fun ε w' ⟨N,q1,_,_,q4⟩=>⟨some ⟨N,0,none⟩,0,q1,q4,Fs.nil⟩
end Go.Proofs.YtegagmoldjiaaaaGreatDoor
