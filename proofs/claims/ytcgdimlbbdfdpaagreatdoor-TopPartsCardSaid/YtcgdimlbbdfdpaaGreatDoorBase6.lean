/-
  What this statement needs, part 6: the texts of it, one behind the other.
-/
import Derived.Test.YtcgdimlbbdfdpaaGreatDoorBase4
import Derived.Deep.WholeRow
import Derived.Deep.LoopGhost
import Derived.WalkMore
set_option maxRecDepth 100000
set_option linter.all false
namespace Go.Proofs.YtcgdimlbbdfdpaaGreatDoor
open Go Go.RowKit _root_.Go.Proofs.Tryz
theorem ret_i64 {a b:Int} (h:a=b):Ending.returned (.int .i64 a)=.returned (.int .i64 b):=by rw [h]
theorem xU {a b:Bool} (h:a=b):Ending.returned (.bool a)=.returned (.bool b):=by rw [h]
theorem ret_Ub {a b:Value} {c d:Bool} (h:a=b) (h':c=d):Ending.returned (.tuple #[a,.bool c])=.returned (.tuple #[b,.bool d]):=by rw [h,h']
theorem bt {p : Prop} (h : p := by
    repeat' (first | (with_reducible exact Below.refl _ _) | (with_reducible assumption) | (with_reducible refine below_drewN ?_ _) | (with_reducible refine Below.drew ?_) | (with_reducible refine Below.setCell ?_ ?_ _) | (with_reducible refine Below.alloc ?_ ?_ _) | (with_reducible exact Nat.le_refl _) | omega | (simp; omega) | (simp; done))) : p := h
set_option maxHeartbeats 1000000 in
theorem cmp_any (A B:Nat) (w:World) (hA:A<M) (hB:B<M) :
 Calls prog 50 #[U A,U B] w fun e w'=>e=.returned (.int .i64 (nG A B))/\Below w.heap.size w w':=by
 go_enter func50,Tryz.ntmps50
 go_wp2
 refine wp_loop_rounds 5 ?_
 repeat' (first | (rw [rounds_succ];go_wp2) | (go_quiet (fail);go_wp2))
 all_goals (go_ret;have ea:=lX A hA;have eb:=lX B hB;have a0:=aZ A 0;have a1:=aZ A 1;have a2:=aZ A 2;have a3:=aZ A 3;have b0:=aZ B 0;have b1:=aZ B 1;have b2:=aZ B 2;have b3:=aZ B 3;unfold Word at a0 a1 a2 a3 b0 b1 b2 b3;refine ⟨ret_i64 (cmpN_of ?_ ?_ ?_),?_⟩;all_goals (first | (intro hh;first | rfl | (exfalso;omega)) | (exact bt)))
set_option maxHeartbeats 1000000 in
theorem rcmp_any (A B:Nat) (w:World) (hA:A<M) (hB:B<M) :
 Calls prog 150 #[U A,U B] w fun e w'=>e=.returned (.int .i64 (nG A B))/\Below w.heap.size w w':=by
 go_enter func150,Tryz.ntmps150
 go_wp2
 refine wp_loop_rounds 5 ?_
 repeat' (first | (rw [rounds_succ];go_wp2) | (go_quiet (fail);go_wp2))
 all_goals (go_ret;have ea:=lX A hA;have eb:=lX B hB;have a0:=aZ A 0;have a1:=aZ A 1;have a2:=aZ A 2;have a3:=aZ A 3;have b0:=aZ B 0;have b1:=aZ B 1;have b2:=aZ B 2;have b3:=aZ B 3;unfold Word at a0 a1 a2 a3 b0 b1 b2 b3;refine ⟨ret_i64 (cmpN_of ?_ ?_ ?_),?_⟩;all_goals (first | (intro hh;first | rfl | (exfalso;omega)) | (exact bt)))
theorem add_words (A B:Nat) (hA:A<M) (hB:B<M) :
 Value.agg #[.int .u64 (dA (wd A 0) (wd B 0) 0),.int .u64 (dA (wd A 1) (wd B 1) (bV (wd A 0) (wd B 0) 0)),.int .u64 (dA (wd A 2) (wd B 2) (bV (wd A 1) (wd B 1) (bV (wd A 0) (wd B 0) 0))),.int .u64 (dA (wd A 3) (wd B 3) (bV (wd A 2) (wd B 2) (bV (wd A 1) (wd B 1) (bV (wd A 0) (wd B 0) 0))))]=U ((A+B)%M) /\
 (((A+B:Nat):Int)=((A+B)%M:Nat)+(M:Int)*bV (wd A 3) (wd B 3) (bV (wd A 2) (wd B 2) (bV (wd A 1) (wd B 1) (bV (wd A 0) (wd B 0) 0)))):=by
 have ea:=lX A hA
 have eb:=lX B hB
 have p0:=add_eq (aZ A 0) (aZ B 0) kS
 have q0:=jB (wd A 0) (wd B 0) 0
 have r0:=iE (wd A 0) (wd B 0) 0
 generalize bV (wd A 0) (wd B 0) 0=k0 at *
 have p1:=add_eq (aZ A 1) (aZ B 1) q0
 have q1:=jB (wd A 1) (wd B 1) k0
 have r1:=iE (wd A 1) (wd B 1) k0
 generalize bV (wd A 1) (wd B 1) k0=k1 at *
 have p2:=add_eq (aZ A 2) (aZ B 2) q1
 have q2:=jB (wd A 2) (wd B 2) k1
 have r2:=iE (wd A 2) (wd B 2) k1
 generalize bV (wd A 2) (wd B 2) k1=k2 at *
 have p3:=add_eq (aZ A 3) (aZ B 3) q2
 have q3:=jB (wd A 3) (wd B 3) k2
 have r3:=iE (wd A 3) (wd B 3) k2
 generalize bV (wd A 3) (wd B 3) k2=k3 at *
 generalize dA (wd A 0) (wd B 0) 0=s0 at *
 generalize dA (wd A 1) (wd B 1) k0=s1 at *
 generalize dA (wd A 2) (wd B 2) k1=s2 at *
 generalize dA (wd A 3) (wd B 3) k2=s3 at *
 have key:(((A+B)%M:Nat):Int)=s0+18446744073709551616*s1+340282366920938463463374607431768211456*s2+6277101735386680763835789423207666416102355444464034512896*s3/\(((A+B:Nat):Int)=((A+B)%M:Nat)+(M:Int)*k3):=by
  have hs:((A+B:Nat):Int)=s0+18446744073709551616*s1+340282366920938463463374607431768211456*s2+6277101735386680763835789423207666416102355444464034512896*s3+M*k3:=by
   rw [lW];omega
  unfold Word vN at *
  rw [lW] at *
  omega
 exact ⟨sG _ r0 r1 r2 r3 key.1,key.2⟩
theorem bit_ne_zero {c:Int} (h:vN c) {p:Prop} [Decidable p] (hp:c=1↔p):(c != 0)=decide p:=by
 unfold vN at h
 by_cases hh:c=1
 ·rw [decide_eq_true (hp.1 hh),hh];rfl
 ·rw [decide_eq_false (fun x=>hh (hp.2 x)),show c=0 by omega];rfl
theorem bit_eq_one {c:Int} (h:vN c) {p:Prop} [Decidable p] (hp:c=1↔p):(c==1)=decide p:=by
 unfold vN at h
 by_cases hh:c=1
 ·rw [decide_eq_true (hp.1 hh),hh];rfl
 ·rw [decide_eq_false (fun x=>hh (hp.2 x)),show c=0 by omega];rfl
theorem add_carry (A B:Nat) (hA:A<M) (hB:B<M):bV (wd A 3) (wd B 3) (bV (wd A 2) (wd B 2) (bV (wd A 1) (wd B 1) (bV (wd A 0) (wd B 0) 0)))=1↔M<=A+B:=by
 have h:=(add_words A B hA hB).2
 have h2:=jB (wd A 3) (wd B 3) (bV (wd A 2) (wd B 2) (bV (wd A 1) (wd B 1) (bV (wd A 0) (wd B 0) 0)))
 generalize bV (wd A 3) (wd B 3) (bV (wd A 2) (wd B 2) (bV (wd A 1) (wd B 1) (bV (wd A 0) (wd B 0) 0)))=k at *
 unfold vN at h2;rw [lW] at *
 rcases (by omega:k=0\/k=1) with rfl | rfl<;>omega
set_option maxHeartbeats 1000000 in
theorem radd_any (A B:Nat) (w:World) (hA:A<M) (hB:B<M) :
 Calls prog 255 #[U A,U B] w fun e w'=>e=.returned (.tuple #[U ((A+B)%M),.bool (decide (M<=A+B))])/\Below w.heap.size w w':=by
 have h55:=add64;have h1:=aZ;have h2:=iE;have h3:=jB;have h4:=kS
 go_enter func255,Tryz.ntmps255
 go_wp2
 refine wp_loop_rounds 5 ?_
 repeat (rw [rounds_succ];go_wp2;try (go_region;go_wp2))
 go_returns
 refine ⟨ret_Ub (add_words A B hA hB).1 (bit_eq_one (jB _ _ _) (add_carry A B hA hB)),?_⟩
 (exact bt)
theorem sub_words (A B:Nat) (hA:A<M) (hB:B<M) :
 Value.agg #[.int .u64 (nV (wd A 0) (wd B 0) 0),.int .u64 (nV (wd A 1) (wd B 1) (fK (wd A 0) (wd B 0) 0)),.int .u64 (nV (wd A 2) (wd B 2) (fK (wd A 1) (wd B 1) (fK (wd A 0) (wd B 0) 0))),.int .u64 (nV (wd A 3) (wd B 3) (fK (wd A 2) (wd B 2) (fK (wd A 1) (wd B 1) (fK (wd A 0) (wd B 0) 0))))]=U ((A+M-B)%M) /\
 (((A:Int)-B)=((A+M-B)%M:Nat)-(M:Int)*fK (wd A 3) (wd B 3) (fK (wd A 2) (wd B 2) (fK (wd A 1) (wd B 1) (fK (wd A 0) (wd B 0) 0)))):=by
 have ea:=lX A hA
 have eb:=lX B hB
 have p0:=sub_eq (aZ A 0) (aZ B 0) kS
 have q0:=jD (wd A 0) (wd B 0) 0
 have r0:=lU (wd A 0) (wd B 0) 0
 generalize fK (wd A 0) (wd B 0) 0=k0 at *
 have p1:=sub_eq (aZ A 1) (aZ B 1) q0
 have q1:=jD (wd A 1) (wd B 1) k0
 have r1:=lU (wd A 1) (wd B 1) k0
 generalize fK (wd A 1) (wd B 1) k0=k1 at *
 have p2:=sub_eq (aZ A 2) (aZ B 2) q1
 have q2:=jD (wd A 2) (wd B 2) k1
 have r2:=lU (wd A 2) (wd B 2) k1
 generalize fK (wd A 2) (wd B 2) k1=k2 at *
 have p3:=sub_eq (aZ A 3) (aZ B 3) q2
 have q3:=jD (wd A 3) (wd B 3) k2
 have r3:=lU (wd A 3) (wd B 3) k2
 generalize fK (wd A 3) (wd B 3) k2=k3 at *
 generalize nV (wd A 0) (wd B 0) 0=s0 at *
 generalize nV (wd A 1) (wd B 1) k0=s1 at *
 generalize nV (wd A 2) (wd B 2) k1=s2 at *
 generalize nV (wd A 3) (wd B 3) k2=s3 at *
 have key:(((A+M-B)%M:Nat):Int)=s0+18446744073709551616*s1+340282366920938463463374607431768211456*s2+6277101735386680763835789423207666416102355444464034512896*s3/\(((A:Int)-B)=((A+M-B)%M:Nat)-(M:Int)*k3):=by
  have hs:(A:Int)-B=s0+18446744073709551616*s1+340282366920938463463374607431768211456*s2+6277101735386680763835789423207666416102355444464034512896*s3-M*k3:=by
   rw [lW];omega
  unfold Word vN at *
  rw [lW] at *
  omega
 exact ⟨sG _ r0 r1 r2 r3 key.1,key.2⟩
theorem sub_borrow (A B:Nat) (hA:A<M) (hB:B<M):fK (wd A 3) (wd B 3) (fK (wd A 2) (wd B 2) (fK (wd A 1) (wd B 1) (fK (wd A 0) (wd B 0) 0)))=1↔A<B:=by
 have h:=(sub_words A B hA hB).2
 have h2:=jD (wd A 3) (wd B 3) (fK (wd A 2) (wd B 2) (fK (wd A 1) (wd B 1) (fK (wd A 0) (wd B 0) 0)))
 generalize fK (wd A 3) (wd B 3) (fK (wd A 2) (wd B 2) (fK (wd A 1) (wd B 1) (fK (wd A 0) (wd B 0) 0)))=k at *
 unfold vN at h2;rw [lW] at *
 rcases (by omega:k=0\/k=1) with rfl | rfl<;>omega
set_option maxHeartbeats 1000000 in
theorem sub_any (A B:Nat) (w:World) (hA:A<M) (hB:B<M) :
 Calls prog 164 #[U A,U B] w fun e w'=>e=.returned (.tuple #[U ((A+M-B)%M),.bool (decide (A<B))])/\Below w.heap.size w w':=by
 have h55:=sub64;have h1:=aZ;have h2:=lU;have h3:=jD;have h4:=kS
 go_enter func164,Tryz.ntmps164
 go_wp2
 refine wp_loop_rounds 5 ?_
 repeat (rw [rounds_succ];go_wp2;try (go_region;go_wp2))
 go_returns
 refine ⟨ret_Ub (sub_words A B hA hB).1 (bit_ne_zero (jD _ _ _) (sub_borrow A B hA hB)),?_⟩
 (exact bt)
set_option maxHeartbeats 1000000 in
theorem rsub_any (A B:Nat) (w:World) (hA:A<M) (hB:B<M) :
 Calls prog 256 #[U A,U B] w fun e w'=>e=.returned (.tuple #[U ((A+M-B)%M),.bool (decide (A<B))])/\Below w.heap.size w w':=by
 have h55:=sub64;have h1:=aZ;have h2:=lU;have h3:=jD;have h4:=kS
 go_enter func256,Tryz.ntmps256
 go_wp2
 refine wp_loop_rounds 5 ?_
 repeat (rw [rounds_succ];go_wp2;try (go_region;go_wp2))
 go_returns
 refine ⟨ret_Ub (sub_words A B hA hB).1 (bit_eq_one (jD _ _ _) (sub_borrow A B hA hB)),?_⟩
 (exact bt)
theorem M_pow:M=2^256:=by rw [lW]
theorem B64_pow:(18446744073709551616:Nat)=2^64:=rfl
theorem wQ (A i:Nat):wd A i=((A / 2^(64*i)%2^64:Nat):Int):=by
 unfold wd;rw [B64_pow,<- Nat.pow_mul]
theorem rU {q p:Nat} (h:q%2^(p+1)=0):∃ a,q=a*2^(p+1) :=
 ⟨q / 2^(p+1),by have:=Nat.div_add_mod q (2^(p+1));rw [h] at this;rw [Nat.mul_comm];omega⟩
theorem setbit_hi (q p j:Nat) (h:q%2^(p+1)=0) (hj:p+1<=64*j):wd (q+2^p) j=wd q j:=by
 rw [wQ,wQ]
 congr 2
 obtain ⟨a,rfl⟩:=rU h
 have e:64*j=(p+1)+(64*j-(p+1)):=by omega
 have e2:2^(64*j)=2^(p+1)*2^(64*j-(p+1)):=by rw [<- Nat.pow_add,<- e]
 rw [e2,<- Nat.div_div_eq_div_mul,<- Nat.div_div_eq_div_mul]
 have hp:0<2^(p+1):=Nat.pow_pos dC
 have h1:(a*2^(p+1)+2^p) / 2^(p+1)=a:=by
  rw [Nat.add_comm,Nat.add_mul_div_right _ _ hp,Nat.div_eq_of_lt (Nat.pow_lt_pow_right dC om)];omega
 rw [h1,Nat.mul_div_cancel _ hp]
theorem setbit_lo (q p j:Nat) (hj:64*(j+1)<=p):wd (q+2^p) j=wd q j:=by
 rw [wQ,wQ]
 congr 1
 have hp:0<2^(64*j):=Nat.pow_pos dC
 have e:2^p=2^(p-64*j-64)*2^64*2^(64*j):=by rw [<- Nat.pow_add,<- Nat.pow_add];congr 1;omega
 rw [e,Nat.add_mul_div_right _ _ hp,Nat.add_mul_mod_self_right]
theorem setbit_at (q j b:Nat) (hb:b<64) (h:q%2^(64*j+b+1)=0):bits .or .u64 (wd q j) (2^b)=wd (q+2^(64*j+b)) j:=by
 rw [wQ,wQ]
 obtain ⟨a,rfl⟩:=rU h
 have hp:0<2^(64*j):=Nat.pow_pos dC
 have e1:a*2^(64*j+b+1)=a*2^(b+1)*2^(64*j):=by rw [Nat.mul_assoc,<- Nat.pow_add];congr 2;omega
 have e2:2^(64*j+b)=2^b*2^(64*j):=by rw [<- Nat.pow_add];congr 1;omega
 rw [e2,Nat.add_mul_div_right _ _ hp,e1,Nat.mul_div_cancel _ hp]
 have e3:2^64=2^(63-b)*2^(b+1):=by rw [<- Nat.pow_add];congr 1;omega
 have e4:a*2^(b+1)%2^64=a%2^(63-b)*2^(b+1):=by rw [e3,Nat.mul_mod_mul_right]
 have hl:a%2^(63-b)<2^(63-b):=Nat.mod_lt _ (Nat.pow_pos dC)
 have hb2:2^(b+1)=2*2^b:=by rw [Nat.pow_succ];omega
 have hpb:0<2^b:=Nat.pow_pos dC
 have hle:(a%2^(63-b)+1)*2^(b+1)<=2^64:=by rw [e3];exact Nat.mul_le_mul_right _ hl
 have e5:(a*2^(b+1)+2^b)%2^64=a%2^(63-b)*2^(b+1)+2^b:=by
  rw [Nat.add_mod,e4,Nat.mod_eq_of_lt (a:=2^b) (Nat.pow_lt_pow_right dC hb),Nat.mod_eq_of_lt]
  rw [Nat.add_mul] at hle;omega
 rw [e5,e4]
 rw [Nat.add_mul] at hle
 have hc:((2:Int)^b)=((2^b:Nat):Int):=by simp
 have hlt1:a%2^(63-b)*2^(b+1)<18446744073709551616:=by rw [B64_pow];omega
 have hlt2:2^b<18446744073709551616:=by rw [B64_pow];omega
 rw [hc,bits_or_u64_nat _ _ hlt1 hlt2]
 congr 1
 exact or_add _ _ _ (Nat.pow_lt_pow_right dC om)
def dT (N i:Nat):Nat:=N / 2^(256-i)
def dLo (lo i:Nat):Nat:=lo*2^i%M
def dR (N b i:Nat):Nat:=dT N i%b
def dQ (N b i:Nat):Nat:=dT N i / b*2^(256-i)
theorem dLo_lt (lo i:Nat):dLo lo i<M:=Nat.mod_lt _ (by rw [lW];decide)
theorem dLo_zero {lo:Nat} (h:lo<M):dLo lo 0=lo:=by unfold dLo;rw [Nat.pow_zero,Nat.mul_one,Nat.mod_eq_of_lt h]
theorem dLo_step (lo i:Nat):2*dLo lo i%M=dLo lo (i+1):=by
 unfold dLo;rw [Nat.mul_mod_mod,Nat.pow_succ];congr 1;rw [Nat.mul_comm 2,Nat.mul_assoc]
theorem dT_zero {hi lo:Nat} (h:lo<M):dT (hi*M+lo) 0=hi:=by
 unfold dT;rw [Nat.sub_zero,<- M_pow,Nat.add_comm,Nat.add_mul_div_right _ _ (by rw [lW];decide),Nat.div_eq_of_lt h];omega
theorem dT_step (hi lo i : Nat) (h : i < 256) : dT (hi * M + lo) (i + 1) = 2 * dT (hi * M + lo) i + 2 * dLo lo i / M := by
 unfold dT dLo
 rw [M_pow] at *
 have e0:256-i=(256-(i+1))+1:=by omega
 generalize hk:256-(i+1)=k at *
 rw [e0]
 have hi':i=255-k:=by omega
 have hlo:=Nat.div_add_mod lo (2^(k+1))
 have hv:lo%2^(k+1)<2^(k+1):=Nat.mod_lt _ (Nat.pow_pos dC)
 generalize lo / 2^(k+1)=u at *
 generalize lo%2^(k+1)=v at *
 have pk:2^(k+1)=2*2^k:=by rw [Nat.pow_succ];omega
 have p0:0<2^k:=Nat.pow_pos dC
 have p256:(2:Nat)^256=2^(255-k)*2^(k+1):=by rw [<- Nat.pow_add];congr 1;omega
 have e1:(hi*2^256+lo) / 2^(k+1)=hi*2^(255-k)+u:=by
  rw [p256,<- hlo,show hi*(2^(255-k)*2^(k+1))+(2^(k+1)*u+v)=v+(hi*2^(255-k)+u)*2^(k+1) by rw [Nat.add_mul,Nat.mul_assoc,Nat.mul_comm u];omega,
   Nat.add_mul_div_right _ _ (Nat.pow_pos dC),Nat.div_eq_of_lt hv];omega
 have e2:(hi*2^256+lo) / 2^k=2*(hi*2^(255-k)+u)+v / 2^k:=by
  rw [p256,<- hlo,show hi*(2^(255-k)*2^(k+1))+(2^(k+1)*u+v)=v+(2*(hi*2^(255-k)+u))*2^k by
   rw [pk]
   have a1:hi*(2^(255-k)*(2*2^k))=2*(hi*2^(255-k))*2^k:=by
    rw [<- Nat.mul_assoc,<- Nat.mul_assoc,Nat.mul_comm (hi*2^(255-k)) 2]
   have a2:2*2^k*u=2*u*2^k:=by rw [Nat.mul_assoc,Nat.mul_comm (2^k),<- Nat.mul_assoc]
   rw [a1,a2,Nat.mul_add,Nat.add_mul];omega,
   Nat.add_mul_div_right _ _ p0];omega
 have e3:lo*2^i%2^256=v*2^(255-k):=by
  rw [hi',<- hlo,Nat.add_mul,p256,show 2^(k+1)*u*2^(255-k)=u*(2^(255-k)*2^(k+1)) by rw [Nat.mul_comm (2^(k+1)),Nat.mul_assoc,Nat.mul_comm (2^(k+1))],
   Nat.add_comm,Nat.add_mul_mod_self_right,Nat.mod_eq_of_lt]
  rw [Nat.mul_comm (2^(255-k))];exact Nat.mul_lt_mul_of_pos_right hv (Nat.pow_pos dC)
 have e4:2*(v*2^(255-k)) / 2^256=v / 2^k:=by
  rw [p256,pk,show 2*(v*2^(255-k))=v*(2^(255-k)*2) by rw [<- Nat.mul_assoc,<- Nat.mul_assoc,Nat.mul_comm 2 v,Nat.mul_assoc,Nat.mul_comm 2,<- Nat.mul_assoc],
   show 2^(255-k)*(2*2^k)=2^k*(2^(255-k)*2) by rw [<- Nat.mul_assoc,Nat.mul_comm],Nat.mul_div_mul_right _ _ (by have:0<2^(255-k):=Nat.pow_pos dC;omega)]
 rw [e1,e2,e3,e4]
theorem dbit (lo i:Nat):2*dLo lo i / M<=1:=by
 have:=dLo_lt lo i
 have hM:0<M:=by rw [lW];decide
 rw [<- Nat.lt_succ_iff,Nat.div_lt_iff_lt_mul hM];omega
theorem dQ_low (N b i:Nat) (_h:i<256):dQ N b i%2^(255-i+1)=0:=by
 unfold dQ;rw [show 255-i+1=256-i by omega];exact Nat.mul_mod_left _ _
theorem d_yes (hi lo b i:Nat) (hb:0<b) (h:i<256) (hge:b<=2*dR (hi*M+lo) b i+2*dLo lo i / M) :
 dR (hi*M+lo) b (i+1)=2*dR (hi*M+lo) b i+2*dLo lo i / M-b/\dQ (hi*M+lo) b (i+1)=dQ (hi*M+lo) b i+2^(255-i):=by
 have hT:=dT_step hi lo i h
 have hbit:=dbit lo i
 unfold dR dQ at *
 generalize dT (hi*M+lo) (i+1)=T' at *
 generalize dT (hi*M+lo) i=T at *
 generalize 2*dLo lo i / M=c at *
 have hd:=Nat.div_add_mod T b
 have hr:=Nat.mod_lt T hb
 generalize T / b=q at *
 generalize T%b=r at *
 have e:T'=(2*r+c-b)+(2*q+1)*b:=by rw [hT,<- hd,Nat.add_mul,Nat.mul_assoc,Nat.mul_comm q b];omega
 have h1:2*r+c-b<b:=by omega
 rw [e,Nat.add_mul_mod_self_right,Nat.mod_eq_of_lt h1,Nat.add_mul_div_right _ _ hb,Nat.div_eq_of_lt h1]
 refine ⟨rfl,?_⟩
 rw [show 256-(i+1)=255-i by omega,show 256-i=255-i+1 by omega,Nat.pow_succ,Nat.zero_add,Nat.add_mul,Nat.one_mul,Nat.mul_comm 2 q,Nat.mul_assoc,Nat.mul_comm 2]
theorem d_no (hi lo b i:Nat) (hb:0<b) (h:i<256) (hge:2*dR (hi*M+lo) b i+2*dLo lo i / M<b) :
 dR (hi*M+lo) b (i+1)=2*dR (hi*M+lo) b i+2*dLo lo i / M/\dQ (hi*M+lo) b (i+1)=dQ (hi*M+lo) b i:=by
 have hT:=dT_step hi lo i h
 have hbit:=dbit lo i
 unfold dR dQ at *
 generalize dT (hi*M+lo) (i+1)=T' at *
 generalize dT (hi*M+lo) i=T at *
 generalize 2*dLo lo i / M=c at *
 have hd:=Nat.div_add_mod T b
 generalize T / b=q at *
 generalize T%b=r at *
 have e:T'=(2*r+c)+(2*q)*b:=by rw [hT,<- hd,Nat.mul_assoc,Nat.mul_comm q b];omega
 rw [e,Nat.add_mul_mod_self_right,Nat.mod_eq_of_lt hge,Nat.add_mul_div_right _ _ hb,Nat.div_eq_of_lt hge]
 refine ⟨rfl,?_⟩
 rw [show 256-(i+1)=255-i by omega,show 256-i=255-i+1 by omega,Nat.pow_succ,Nat.zero_add,Nat.mul_comm 2 q,Nat.mul_assoc,Nat.mul_comm 2]
theorem dR_lt (N b i:Nat) (hb:0<b):dR N b i<b:=Nat.mod_lt _ hb
theorem d_start {hi lo b:Nat} (hl:lo<M) (hb:hi<b):dR (hi*M+lo) b 0=hi/\dQ (hi*M+lo) b 0=0:=by
 unfold dR dQ;rw [dT_zero hl,Nat.mod_eq_of_lt hb,Nat.div_eq_of_lt hb];exact ⟨rfl,Nat.zero_mul _⟩
theorem d_end (N b:Nat):dR N b 256=N%b/\dQ N b 256=N / b:=by
 unfold dR dQ dT;simp
theorem d_early {hi lo b i:Nat} (h:i<=256) (hr:dR (hi*M+lo) b i=0) (h0:dLo lo i=0):dR (hi*M+lo) b i=(hi*M+lo)%b/\dQ (hi*M+lo) b i=(hi*M+lo) / b:=by
 have key:∀ k,i+k<=256->dT (hi*M+lo) (i+k)=dT (hi*M+lo) i*2^k/\dLo lo (i+k)=0:=by
  intro k
  induction k with
  | zero=>intro _;exact ⟨by simp,h0⟩
  | succ k ih =>
    intro hk
    obtain ⟨h1,h2⟩:=ih om
    have h3:=dT_step hi lo (i+k) om
    have h4:=dLo_step lo (i+k)
    rw [h2] at h3 h4
    refine ⟨?_,?_⟩
    ·rw [<- Nat.add_assoc,h3,h1,Nat.mul_zero,Nat.zero_div,Nat.pow_succ,Nat.add_zero,Nat.mul_comm 2,Nat.mul_assoc]
    ·rw [<- Nat.add_assoc,<- h4];simp
 have hN:hi*M+lo=dT (hi*M+lo) i*2^(256-i):=by
  have:=(key (256-i) om).1
  rw [show i+(256-i)=256 by omega] at this
  rw [<- this];unfold dT;simp
 unfold dR dQ at *
 generalize dT (hi*M+lo) i=T at *
 rw [hN]
 by_cases hb:b=0
 ·subst hb;simp at *;simp [hr]
 ·have hb' : 0 < b := by omega
  have hd:=Nat.div_add_mod T b
  rw [hr] at hd
  rw [hr]
  generalize T / b=q at *
  have e:T*2^(256-i)=q*2^(256-i)*b:=by rw [<- hd,Nat.add_zero,Nat.mul_comm b q,Nat.mul_right_comm]
  rw [e,Nat.mul_mod_left,Nat.mul_div_cancel _ hb']
  exact ⟨rfl,rfl⟩
theorem yG {x c:Int} (_hx:Word x) (hc:vN c):bits .or .u64 (IntKind.u64.wrap (x*2)) c=(x*2)%18446744073709551616+c:=by
 unfold Word vN at *
 rw [IntKind.wrap_u64]
 have e:x*2%18446744073709551616=(x%9223372036854775808)*2^1:=by omega
 have h:=u64_or_add (x%9223372036854775808) c 1 om hc.1 om om
 rw [<- e] at h
 exact h
theorem dbl_bit {x:Int} (hx:Word x):vN (x / 9223372036854775808):=by unfold Word vN at *;omega
theorem dbl_words (A:Nat) (c:Int) (hA:A<M) (hc:vN c) :
 Value.agg #[.int .u64 (bits .or .u64 (IntKind.u64.wrap (wd A 0*2)) c),.int .u64 (bits .or .u64 (IntKind.u64.wrap (wd A 1*2)) (wd A 0 / 9223372036854775808)),.int .u64 (bits .or .u64 (IntKind.u64.wrap (wd A 2*2)) (wd A 1 / 9223372036854775808)),.int .u64 (bits .or .u64 (IntKind.u64.wrap (wd A 3*2)) (wd A 2 / 9223372036854775808))]=U ((2*A+c.toNat)%M)/\wd A 3 / 9223372036854775808=(((2*A+c.toNat) / M:Nat):Int):=by
 have w0:=aZ A 0;have w1:=aZ A 1;have w2:=aZ A 2;have w3:=aZ A 3
 have ea:=lX A hA
 rw [yG w0 hc,yG w1 (dbl_bit w0),yG w2 (dbl_bit w1),yG w3 (dbl_bit w2)]
 generalize wd A 0=a0 at *;generalize wd A 1=a1 at *;generalize wd A 2=a2 at *;generalize wd A 3=a3 at *
 unfold Word vN at *
 refine ⟨sG _ ?_ ?_ ?_ ?_ ?_,?_⟩
 ·unfold Word;omega
 ·unfold Word;omega
 ·unfold Word;omega
 ·unfold Word;omega
 ·rw [lW] at *;omega
 ·rw [lW] at *;omega
theorem ret_Ui {a b:Value} {c d:Int} (h:a=b) (h':c=d):Ending.returned (.tuple #[a,.int .u64 c])=.returned (.tuple #[b,.int .u64 d]):=by rw [h,h']
set_option maxHeartbeats 1000000 in
theorem double_any (A:Nat) (c:Int) (w:World) (hA:A<M) (hc:vN c) :
 Calls prog 163 #[U A,.int .u64 c] w fun e w'=>e=.returned (.tuple #[U ((2*A+c.toNat)%M),.int .u64 (((2*A+c.toNat) / M:Nat):Int)])/\Below w.heap.size w w':=by
 have H:=Lib.hid hc
 clear hc
 go_enter func163,Tryz.ntmps163
 go_wp2
 refine wp_loop_rounds 5 ?_
 repeat (rw [rounds_succ];go_wp2;try (go_region;go_wp2))
 go_returns
 obtain ⟨g1,g2⟩:=dbl_words A c hA H.out
 refine ⟨ret_Ui g1 g2,?_⟩
 (exact bt)
theorem heap_past_aux (w:World) (o:Obj) (n:Nat) (hn:n<w.heap.size):(w.alloc o).heap[n]? = w.heap[n]? := by
 show (w.heap.push o)[n]? = _
 rw [Array.getElem?_push,if_neg (Nat.ne_of_lt hn)]
theorem gY (w:World) (o:Obj) (n:Nat) (hn:n=w.heap.size):(w.alloc o).heap[n]? = some o:=by subst hn;exact heap_alloc_new w o
theorem dD (w:World) (o:Obj) (n:Nat) (hn:n<w.heap.size):(w.alloc o).heap[n]? = w.heap[n]? := Go.Proofs.YtcgdimlbbdfdpaaGreatDoor.heap_past_aux w o n hn
theorem hp_5_0 (w:World) (o0 o1 o2 o3 o4:Obj):(((((w.alloc o0).alloc o1).alloc o2).alloc o3).alloc o4).heap[w.heap.size]? = some o0:=(dD _ _ _ (by simp;try omega)).trans ((dD _ _ _ (by simp;try omega)).trans ((dD _ _ _ (by simp;try omega)).trans ((dD _ _ _ (by simp;try omega)).trans (gY _ _ _ (by simp)))))
theorem hp_5_1 (w:World) (o0 o1 o2 o3 o4:Obj):(((((w.alloc o0).alloc o1).alloc o2).alloc o3).alloc o4).heap[w.heap.size+1]? = some o1:=(dD _ _ _ (by simp;try omega)).trans ((dD _ _ _ (by simp;try omega)).trans ((dD _ _ _ (by simp;try omega)).trans (gY _ _ _ (by simp))))
theorem hp_5_2 (w:World) (o0 o1 o2 o3 o4:Obj):(((((w.alloc o0).alloc o1).alloc o2).alloc o3).alloc o4).heap[w.heap.size+1+1]? = some o2:=(dD _ _ _ (by simp;try omega)).trans ((dD _ _ _ (by simp;try omega)).trans (gY _ _ _ (by simp)))
theorem hp_5_3 (w:World) (o0 o1 o2 o3 o4:Obj):(((((w.alloc o0).alloc o1).alloc o2).alloc o3).alloc o4).heap[w.heap.size+1+1+1]? = some o3:=(dD _ _ _ (by simp;try omega)).trans (gY _ _ _ (by simp))
theorem hp_5_4 (w:World) (o0 o1 o2 o3 o4:Obj):(((((w.alloc o0).alloc o1).alloc o2).alloc o3).alloc o4).heap[w.heap.size+1+1+1+1]? = some o4:=gY _ _ _ (by simp)
theorem ret_UUb {a b c d:Value} {x y:Bool} (h:a=b) (h':c=d) (h2:x=y):Ending.returned (.tuple #[a,c,.bool x])=.returned (.tuple #[b,d,.bool y]):=by rw [h,h',h2]
theorem kY (q g m:Nat) (hg:g<4) (hm:m<64) (h:q%2^(64*g+m+1)=0):(cU q).setIfInBounds g (.int .u64 (bits .or .u64 (wd q g) (2^m)))=cU (q+2^(64*g+m)):=by
 rw [setbit_at q g m hm h]
 have hh:∀ j,g<j->wd (q+2^(64*g+m)) j=wd q j:=fun j hj=>setbit_hi q _ j h om
 have hl:∀ j,j<g->wd (q+2^(64*g+m)) j=wd q j:=fun j hj=>setbit_lo q _ j om
 generalize q+2^(64*g+m)=q' at *
 rcases (by omega:g=0\/g=1\/g=2\/g=3) with rfl | rfl | rfl | rfl
 ·show #[_,_,_,_]=_;rw [cU,hh 1 om,hh 2 om,hh 3 om]
 ·show #[_,_,_,_]=_;rw [cU,hl 0 om,hh 2 om,hh 3 om]
 ·show #[_,_,_,_]=_;rw [cU,hl 0 om,hl 1 om,hh 3 om]
 ·show #[_,_,_,_]=_;rw [cU,hl 0 om,hl 1 om,hl 2 om]
theorem vZ (m:Nat) (h:m<64):IntKind.u64.wrap (2^m)=2^m:=by
 have h1:(2:Nat)^m<2^64:=Nat.pow_lt_pow_right dC h
 have h2:((2^m:Nat):Int)<((2^64:Nat):Int):=by omega
 have h3:((2^m:Nat):Int)=2^m:=by simp
 rw [h3] at h2
 exact u64_in' (by rw [<- h3];exact Int.natCast_nonneg _) h2
theorem step_r2 {v b:Nat} (h:b<=v) (h2:v-b<M) (hb:b<M):(v%M+M-b)%M=v-b:=by rw [lW] at *;omega
theorem cmp_ge {A B:Nat} (h:B<=A):0<=nG A B:=by unfold nG;split<;>(try split)<;>omega
theorem cmp_lt {A B:Nat} (h:A<B):nG A B<0:=by unfold nG;split<;>(try split)<;>omega
def Own (w:World) (g:Nat) (C:Array Value):Prop:=w.heap[g]? = some (.cells C 31 (0,0))
theorem Own.cell {w:World} {g:Nat} {C:Array Value} (h:Own w g C) (j:Nat):w.cell? ⟨g,j,none⟩=C[j]? := cell_of_row w g j C _ _ h
theorem Own.free {w:World} {g:Nat} {C:Array Value} (h:Own w g C) (j:Nat):w.frozen? ⟨g,j,none⟩=false:=frozen_of_row w g j C _ h
theorem Own.lt {w:World} {g:Nat} {C:Array Value} (h:Own w g C):g<w.heap.size:=by
 unfold Own at h
 by_cases hl:g<w.heap.size
 ·exact hl
 ·rw [Array.getElem?_eq_none om] at h;exact absurd h (by simp)
theorem Own.below {w w':World} {g:Nat} {C:Array Value} (h:Own w g C) (hb:Below w.heap.size w w'):Own w' g C:=(hb.block g h.lt).trans h
theorem Own.set4 {w:World} {g:Nat} {c0 c1 c2 c3:Value} (h:Own w g #[c0,c1,c2,c3]) (d0 d1 d2 d3:Value):Own ((((w.setCell ⟨g,0,none⟩ d0).setCell ⟨g,1,none⟩ d1).setCell ⟨g,2,none⟩ d2).setCell ⟨g,3,none⟩ d3) g #[d0,d1,d2,d3] :=
 heap_setCell_same _ g 3 _ _ d3 (heap_setCell_same _ g 2 _ _ d2 (heap_setCell_same _ g 1 _ _ d1 (heap_setCell_same _ g 0 _ _ d0 h)))
theorem Own.set {w:World} {g i:Nat} {C:Array Value} (h:Own w g C) (d:Value):Own (w.setCell ⟨g,i,none⟩ d) g (C.setIfInBounds i d):=heap_setCell_same _ g i _ _ d h
theorem Own.other {w:World} {g:Nat} {C:Array Value} (h:Own w g C) {g' i:Nat} (hg:g≠g') (d:Value):Own (w.setCell ⟨g',i,none⟩ d) g C:=(heap_setCell_other w ⟨g',i,none⟩ g d hg).trans h
theorem Own.other4 {w:World} {g:Nat} {C:Array Value} (h:Own w g C) {g':Nat} (hg:g≠g') (d0 d1 d2 d3:Value):Own ((((w.setCell ⟨g',0,none⟩ d0).setCell ⟨g',1,none⟩ d1).setCell ⟨g',2,none⟩ d2).setCell ⟨g',3,none⟩ d3) g C :=
 (((h.other hg d0).other hg d1).other hg d2).other hg d3
theorem Own.drew {w:World} {g:Nat} {C:Array Value} (h:Own w g C):Own w.drew g C:=h
theorem Own.new {w:World} (C:Array Value):Own (w.alloc (.cells C 31)) w.heap.size C:=gY w _ _ rfl
theorem Own.past {w:World} {g:Nat} {C:Array Value} (h:Own w g C) (o:Obj):Own (w.alloc o) g C:=(dD w o g h.lt).trans h
theorem loadU {w:World} {g:Nat} {C:Array Value} (O:Own w g C) (hs:C.size=4):(loadVar 31 ⟨g,0,none⟩).run prog w=.ok (.agg C) w :=
 run_loadVar_row w g 31 31 C (0,0) _ O underlying31 rfl (by rw [hs];kernel_rfl)
theorem xM {fn:Func} {p1 p2 b:Tmp} (h:fn.results= #[.cell p1 31,.cell p2 31,.tmp b]) (tmps:Array Value) (w:World) (g1 g2:Nat) (C1 C2:Array Value)
 (hp1:tmps.getD p1 undef=.pointer (some ⟨g1,0,none⟩)) (hp2:tmps.getD p2 undef=.pointer (some ⟨g2,0,none⟩)) (O1:Own w g1 C1) (O2:Own w g2 C2) (s1:C1.size=4) (s2:C2.size=4) :
 (results fn tmps).run prog w=.ok (.tuple #[.agg C1,.agg C2,tmps.getD b undef]) w:=by
 have h1:tmps[p1]?.getD undef=.pointer (some ⟨g1,0,none⟩):=by simpa using hp1
 have h2:tmps[p2]?.getD undef=.pointer (some ⟨g2,0,none⟩):=by simpa using hp2
 simp [results,h,h1,h2,asAddr,loadU O1 s1,loadU O2 s2]
set_option maxHeartbeats 1000000 in
theorem div_no (hi lo b:Nat) (w:World) (h1:hi<M) (h3:b<M) (hle:b<=hi) :
 Calls prog 110 #[U hi,U lo,U b] w fun e w'=>e=.returned (.tuple #[U 0,U 0,.bool false])/\Below w.heap.size w w':=by
 have hc:nG b hi<=0:=by unfold nG;split<;>(try split)<;>omega
 go_enter func110,Tryz.ntmps110
 go_wp2_with fail
 go_step3
 go_wp2_with fail
 refine (cmp_any b hi _ h3 h1).mono ?_;rintro e w1 ⟨rfl,hb⟩
 have O3:Own w1 (w.heap.size+1+1+1) #[.int .u64 0,.int .u64 0,.int .u64 0,.int .u64 0]:=Own.below (hp_5_3 _ _ _ _ _ _) hb
 have O4:Own w1 (w.heap.size+1+1+1+1) #[.int .u64 0,.int .u64 0,.int .u64 0,.int .u64 0]:=Own.below (hp_5_4 _ _ _ _ _ _) hb
 have hb':Below w.heap.size w w1:=Below.trans (by (exact bt)) (hb.mono (by simp only [World.size_alloc];omega))
 clear hb
 have c3:=O3.cell;have f3:=O3.free;have c4:=O4.cell;have f4:=O4.free
 go_wp2
 rw [Exit.noGoto_ret]
 go_big_open
 refine bodyPost_ret (xM rfl _ _ _ _ _ _ rfl rfl ((O3.set4 _ _ _ _).other4 om _ _ _ _) ((O4.other4 om _ _ _ _).set4 _ _ _ _) rfl rfl) rfl ?_
 refine ⟨ret_UUb U0_eq U0_eq rfl,?_⟩
 (exact bt)
def DivW (w wr:World) (z hi lo b i:Nat):Prop :=
 Below w.heap.size w wr/\w.heap.size+5<=z/\z<wr.heap.size /\
 Own wr (w.heap.size+1) (cU (dLo lo i)) /\
 Own wr (w.heap.size+1+1) (cU b) /\
 Own wr (w.heap.size+1+1+1) (cU (dQ (hi*M+lo) b i)) /\
 Own wr (w.heap.size+1+1+1+1) (cU (dR (hi*M+lo) b i)) /\
 Own wr z #[.int .u64 0,.int .u64 0,.int .u64 0,.int .u64 0]
set_option maxHeartbeats 4000000 in
theorem div_yes (hi lo b:Nat) (w:World) (h1:hi<M) (h2:lo<M) (h3:b<M) (hle:hi<b) :
 Calls prog 110 #[U hi,U lo,U b] w fun e w'=>e=.returned (.tuple #[U ((hi*M+lo) / b),U ((hi*M+lo)%b),.bool true])/\Below w.heap.size w w':=by
 have hc:0<nG b hi:=by rw [cmpN_gt hle];omega
 go_enter func110,Tryz.ntmps110
 go_wp2_with fail
 go_step3
 go_wp2_with fail
 refine (cmp_any b hi _ h3 h1).mono ?_;rintro e w1 ⟨rfl,hb⟩
 have O0:Own w1 w.heap.size (cU hi):=Own.below (hp_5_0 _ _ _ _ _ _) hb
 have O1:Own w1 (w.heap.size+1) (cU lo):=Own.below (hp_5_1 _ _ _ _ _ _) hb
 have O2:Own w1 (w.heap.size+1+1) (cU b):=Own.below (hp_5_2 _ _ _ _ _ _) hb
 have O3:Own w1 (w.heap.size+1+1+1) #[.int .u64 0,.int .u64 0,.int .u64 0,.int .u64 0]:=Own.below (hp_5_3 _ _ _ _ _ _) hb
 have O4:Own w1 (w.heap.size+1+1+1+1) #[.int .u64 0,.int .u64 0,.int .u64 0,.int .u64 0]:=Own.below (hp_5_4 _ _ _ _ _ _) hb
 have hB:Below w.heap.size w w1:=Below.trans (by (exact bt)) (hb.mono (by simp only [World.size_alloc];omega))
 clear hb
 have c0:=O0.cell;have l0:=O0.lt;have c4:=O4.cell;have f4:=O4.free;have l4:=O4.lt
 go_wp2
 go_step3
 go_wp2
 go_loopg [10] 4 (fun k p wr=>k<=4/\p=.int .i64 (k-1)/\DivW w wr w1.heap.size hi lo b (256-64*k))
 case atStart =>
  obtain ⟨e1,e2⟩:=d_start h2 hle
  refine ⟨by omega,rfl,?_,by omega,by simp,?_,?_,?_,?_,?_⟩
  ·(exact bt)
  ·rw [show 256-64*4=0 by omega,dLo_zero h2];exact (O1.other4 om _ _ _ _).past _
  ·exact (O2.other4 om _ _ _ _).past _
  ·rw [show 256-64*4=0 by omega,e2,cU,kW,kW,kW,kW];exact (O3.other4 om _ _ _ _).past _
  ·rw [show 256-64*4=0 by omega,e1];exact (O4.set4 _ _ _ _).past _
  ·exact gY _ _ _ (by simp)
 case round =>
  obtain ⟨hk,rfl,hW⟩:=hrel
  by_cases hk0:gk=0
  ·subst hk0
   obtain ⟨B0,z1,z2,P1,P2,P3,P4,P5⟩:=hW
   obtain ⟨y1,y2⟩:=d_end (hi*M+lo) b
   rw [show 256-64*0=256 by omega,y1] at P4
   rw [show 256-64*0=256 by omega,y2] at P3
   clear y1 y2 P1
   obtain ⟨r,er⟩:∃ r,r=(hi*M+lo)%b:=⟨_,rfl⟩
   obtain ⟨q,eq⟩:∃ q,q=(hi*M+lo) / b:=⟨_,rfl⟩
   rw [<- er] at P4;rw [<- eq] at P3
   have ER:=Lib.hid er;have EQ:=Lib.hid eq
   clear er eq
   have c3:=P3.cell;have f3:=P3.free;have c4':=P4.cell;have f4':=P4.free
   go_wp2
   go_region
   go_wp2
   try rw [Exit.noGoto_ret]
   try go_big_open
   refine bodyPost_ret (xM rfl _ _ _ _ _ _ rfl rfl ((P3.set4 _ _ _ _).other4 om _ _ _ _).drew ((P4.other4 om _ _ _ _).set4 _ _ _ _).drew rfl rfl) rfl ?_
   rw [<- ER.out,<- EQ.out]
   refine ⟨rfl,?_⟩
   (exact bt)
  ·obtain ⟨g, rfl⟩ : ∃ g, gk = g + 1 := ⟨gk - 1, by omega⟩
   have eg:((g+1:Nat):Int)-1=g:=by omega
   rw [eg]
   have HW:=Lib.hid hW
   clear hW eg
   obtain ⟨wo,rfl⟩:∃ wo:World,wo=wr:=⟨_,rfl⟩
   go_wp2
   go_loopg [11] 64 (fun k p wr=>k<=64/\p=.int .i64 (k-1)/\DivW w wr w1.heap.size hi lo b (256-64*g-k))
   case atStart =>
    have:=HW.out
    exact ⟨by omega,rfl,by rw [show 256-64*g-64=256-64*(g+1) by omega];exact this⟩
   case round =>
    obtain ⟨hk2,rfl,hW⟩:=hrel
    by_cases hm0:gk=0
    ·subst hm0
     have HW2:=Lib.hid hW
     clear hW
     go_wp2
     go_roundg g
     case rel=>exact ⟨by omega,by go_num,HW2.out⟩
     case measure=>omega
    ·obtain ⟨m, rfl⟩ : ∃ m, gk = m + 1 := ⟨gk - 1, by omega⟩
     have eg:((m+1:Nat):Int)-1=m:=by omega
     rw [eg]
     clear eg
     obtain ⟨i,hi2⟩:∃ i,i=256-64*g-(m+1):=⟨_,rfl⟩
     rw [<- hi2] at hW
     have HI:Hid (i+(64*g+m)=255):=by show _=_;omega
     clear hi2
     obtain ⟨B0,z1,z2,P1,P2,P3,P4,P5⟩:=hW
     obtain ⟨x,ex⟩:∃ x,x=dLo lo i:=⟨_,rfl⟩
     obtain ⟨r,er⟩:∃ r,r=dR (hi*M+lo) b i:=⟨_,rfl⟩
     obtain ⟨q,eq⟩:∃ q,q=dQ (hi*M+lo) b i:=⟨_,rfl⟩
     obtain ⟨x',ex'⟩:∃ x',x'=dLo lo (i+1):=⟨_,rfl⟩
     obtain ⟨c,ec⟩:∃ c:Nat,c=2*x / M:=⟨_,rfl⟩
     obtain ⟨r1,er1⟩:∃ r1,r1=(2*r+c)%M:=⟨_,rfl⟩
     obtain ⟨ov,eov⟩:∃ ov:Nat,ov=(2*r+c) / M:=⟨_,rfl⟩
     obtain ⟨r2,er2⟩:∃ r2,r2=(r1+M-b)%M:=⟨_,rfl⟩
     have xlt:x<M:=by rw [ex];exact dLo_lt lo i
     have rlt:r<M:=by rw [er];exact Nat.lt_trans (dR_lt _ b i om) h3
     have r1lt:r1<M:=by rw [er1];exact Nat.mod_lt _ M_pos
     have cbit:vN (c:Int):=by have:=dbit lo i;rw [<- ex,<- ec] at this;unfold vN;omega
     have D1:Hid (∀ W,Calls prog 163 #[U x,.int .u64 0] W fun e w'=>e=.returned (.tuple #[U x',.int .u64 (c:Int)])/\Below W.heap.size W w'):=by
      intro W
      have h:=double_any x 0 W xlt kS
      rw [show 2*x+(0:Int).toNat=2*x by rfl,<- ec] at h
      rw [ex',<- dLo_step lo i,<- ex];exact h
     have D2:Hid (∀ W,Calls prog 163 #[U r,.int .u64 (c:Int)] W fun e w'=>e=.returned (.tuple #[U r1,.int .u64 (ov:Int)])/\Below W.heap.size W w'):=by
      intro W
      have h:=double_any r (c:Int) W rlt cbit
      rw [Int.toNat_natCast,<- er1,<- eov] at h
      exact h
     have D3:Hid (∀ W,Calls prog 164 #[U r1,U b] W fun e w'=>e=.returned (.tuple #[U r2,.bool (decide (r1<b))])/\Below W.heap.size W w'):=by
      intro W
      have h:=sub_any r1 b W r1lt h3
      rw [<- er2] at h
      exact h
     have D4:Hid (∀ W,Calls prog 50 #[U r1,U b] W fun e w'=>e=.returned (.int .i64 (nG r1 b))/\Below W.heap.size W w'):=fun W=>cmp_any r1 b W r1lt h3
     have p255:255-i=64*g+m:=by have:=HI.out;omega
     have YES:Hid (b<=2*r+c->dR (hi*M+lo) b (i+1)=r2/\dQ (hi*M+lo) b (i+1)=q+2^(64*g+m)/\q%2^(64*g+m+1)=0):=by
      intro hge
      have hq:=dQ_low (hi*M+lo) b i (by have:=HI.out;omega)
      rw [er,ec,ex] at hge
      obtain ⟨y1,y2⟩:=d_yes hi lo b i om (by have:=HI.out;omega) hge
      have hlt:=dR_lt (hi*M+lo) b (i+1) om
      rw [y1,<- er,<- ex,<- ec] at hlt
      rw [<- er,<- ex,<- ec] at hge
      rw [y1,y2,<- er,<- ex,<- ec,<- eq,p255,er2,er1,step_r2 hge om h3]
      rw [<- eq,p255] at hq
      exact ⟨rfl,rfl,hq⟩
     have NO:Hid (2*r+c<b->dR (hi*M+lo) b (i+1)=r1/\dQ (hi*M+lo) b (i+1)=q):=by
      intro hge
      rw [er,ec,ex] at hge
      obtain ⟨y1,y2⟩:=d_no hi lo b i om (by have:=HI.out;omega) hge
      rw [<- er,<- ex,<- ec] at hge
      rw [y1,y2,<- er,<- ex,<- ec,<- eq,er1,Nat.mod_eq_of_lt om]
      exact ⟨rfl,rfl⟩
     have LAST:Hid (r=0->x=0->(hi*M+lo)%b=r/\(hi*M+lo) / b=q):=by
      intro h0 h0'
      rw [er] at h0;rw [ex] at h0'
      obtain ⟨y1,y2⟩:=d_early (by have:=HI.out;omega) h0 h0'
      exact ⟨by rw [<- y1,er],by rw [<- y2,eq]⟩
     have ei:256-64*g-m=i+1:=by have:=HI.out;omega
     have hv1:ov≠0->b<=2*r+c:=by
      intro h
      rw [eov] at h
      have:M<=2*r+c:=by
       by_cases hh:2*r+c<M
       ·rw [Nat.div_eq_of_lt hh] at h;exact absurd rfl h
       ·omega
      omega
     have hv0:ov=0->r1=2*r+c:=by
      intro h
      rw [eov] at h
      rw [er1]
      exact Nat.mod_eq_of_lt (Nat.lt_of_div_eq_zero M_pos h)
     rw [<- ex] at P1;rw [<- er] at P4;rw [<- eq] at P3
     have EX':=Lib.hid ex';have HV1:=Lib.hid hv1;have HV0:=Lib.hid hv0;have EI:=Lib.hid ei
     clear ex er eq ex' ec er1 eov er2 cbit hv1 hv0 ei p255
     have E1:=fun W=>eqlU0 r rlt W
     have E2:=fun W=>eqlU0 x xlt W
     have c1:=P1.cell;have f1:=P1.free
     have c2:=P2.cell
     have c4':=P4.cell;have f4':=P4.free
     have c5:=P5.cell
     by_cases hend:r=0/\x=0
     ·obtain ⟨hr0, hx0⟩ := hend
      obtain ⟨L1,L2⟩:=LAST.out hr0 hx0
      have hd:decide (r=0)=true:=decide_eq_true hr0
      have hd2:decide (x=0)=true:=decide_eq_true hx0
      have HL1:=Lib.hid L1;have HL2:=Lib.hid L2
      clear L1 L2 hr0 hx0
      have c3:=P3.cell;have f3:=P3.free
      go_wp2
      go_region
      go_wp2
      rw [Exit.noGoto_ret]
      go_big_open
      refine bodyPost_ret (xM rfl _ _ _ _ _ _ rfl rfl ((P3.set4 _ _ _ _).other4 om _ _ _ _).drew ((P4.other4 om _ _ _ _).set4 _ _ _ _).drew rfl rfl) rfl ?_
      rw [HL1.out,HL2.out]
      refine ⟨rfl,?_⟩
      (exact bt)
     · have hT : (decide (r = 0) = false) \/ (decide (r = 0) = true /\ decide (x = 0) = false) := by
        by_cases h:r=0
        ·exact Or.inr ⟨decide_eq_true h,decide_eq_false (fun hx=>hend ⟨h,hx⟩)⟩
        ·exact Or.inl (decide_eq_false h)
       clear hend
       by_cases hov:ov=0
       ·have hob : ((ov : Int) != 0) = false := by rw [hov]; rfl
        have hr1:=HV0.out hov
        clear hov
        by_cases hge:b<=2*r+c
        ·have hcm : 0 <= nG r1 b := cmp_ge om
         have HGE:=Lib.hid hge
         clear hr1 hge
         rcases hT with hd | ⟨hd,hd2⟩
         all_goals
          go_wp2_with fail
          refine (D1.out _).mono ?_;rintro e w2 ⟨rfl,hb2⟩;have Q1:=P1.below hb2;have Q2:=P2.below hb2;have Q3:=P3.below hb2;have Q4:=P4.below hb2;have Q5:=P5.below hb2;have B2:Below w.heap.size w w2:=B0.trans (hb2.mono B0.size);have hs2:=hb2.size;clear c1 f1 c2 c4' f4' c5 hb2;have c1:=Q1.cell;have f1:=Q1.free;have c4':=Q4.cell
          go_wp2_with fail
          refine (D2.out _).mono ?_;rintro e w4 ⟨rfl,hb4⟩;have R1:=(Q1.set4 _ _ _ _).below hb4;have R2:=(Q2.other4 om _ _ _ _).below hb4;have R3:=(Q3.other4 om _ _ _ _).below hb4;have R4:=(Q4.other4 om _ _ _ _).below hb4;have R5:=(Q5.other4 om _ _ _ _).below hb4;have B4:Below w.heap.size w w4:=Below.trans (by (exact bt)) (hb4.mono (by simp;have:=B2.size;omega));have hs4:=hb4.size;simp at hs4;clear c1 f1 c4' hb4 Q1 Q2 Q3 Q4 Q5;have c4':=R4.cell;have f4':=R4.free;have c2:=R2.cell
          go_wp2_with fail
          refine (D4.out _).mono ?_;rintro e w5 ⟨rfl,hb5⟩;have T1:=(R1.other4 om _ _ _ _).below hb5;have T2:=(R2.other4 om _ _ _ _).below hb5;have T3:=(R3.other4 om _ _ _ _).below hb5;have T4:=(R4.set4 _ _ _ _).below hb5;have T5:=(R5.other4 om _ _ _ _).below hb5;have B5:Below w.heap.size w w5:=Below.trans (by (exact bt)) (hb5.mono (by simp;have:=B4.size;omega));have hs5:=hb5.size;simp at hs5;clear c4' f4' c2 hb5 R1 R2 R3 R4 R5;have c4':=T4.cell;have f4':=T4.free;have c2:=T2.cell
          go_wp2_with fail
          refine (D3.out _).mono ?_;rintro e w6 ⟨rfl,hb6⟩;have S1:=T1.below hb6;have S2:=T2.below hb6;have S3:=T3.below hb6;have S4:=T4.below hb6;have S5:=T5.below hb6;have B6:Below w.heap.size w w6:=B5.trans (hb6.mono B5.size);have hs6:=hb6.size;clear c4' f4' c2 hb6 T1 T2 T3 T4 T5;have c4':=S4.cell;have f4':=S4.free;have f3:=S3.free;have cg:w6.cell? ⟨w.heap.size+1+1+1,g,none⟩=some (.int .u64 (wd q g)):=by rw [S3.cell,oJ q g om]
          go_wp2
          go_region
          go_wp2
          go_roundg m
          case rel =>
           obtain ⟨y1,y2,y3⟩:=YES.out HGE.out
           rw [EI.out,vZ m om]
           refine ⟨by omega,rfl,?_,by omega,by simp;omega,?_,?_,?_,?_,?_⟩
           ·(exact bt)
           ·rw [<- EX'.out];exact ((S1.other4 om _ _ _ _).other om _).drew
           ·exact ((S2.other4 om _ _ _ _).other om _).drew
           ·rw [y2,<- kY q g m om om y3];exact ((S3.other4 om _ _ _ _).set _).drew
           ·rw [y1];exact ((S4.set4 _ _ _ _).other om _).drew
           ·exact ((S5.other4 om _ _ _ _).other om _).drew
          case measure=>omega
        ·have hcm : nG r1 b < 0 := cmp_lt om
         have HGE:=Lib.hid hge
         clear hr1 hge
         rcases hT with hd | ⟨hd,hd2⟩
         all_goals
          go_wp2_with fail
          refine (D1.out _).mono ?_;rintro e w2 ⟨rfl,hb2⟩;have Q1:=P1.below hb2;have Q2:=P2.below hb2;have Q3:=P3.below hb2;have Q4:=P4.below hb2;have Q5:=P5.below hb2;have B2:Below w.heap.size w w2:=B0.trans (hb2.mono B0.size);have hs2:=hb2.size;clear c1 f1 c2 c4' f4' c5 hb2;have c1:=Q1.cell;have f1:=Q1.free;have c4':=Q4.cell
          go_wp2_with fail
          refine (D2.out _).mono ?_;rintro e w4 ⟨rfl,hb4⟩;have R1:=(Q1.set4 _ _ _ _).below hb4;have R2:=(Q2.other4 om _ _ _ _).below hb4;have R3:=(Q3.other4 om _ _ _ _).below hb4;have R4:=(Q4.other4 om _ _ _ _).below hb4;have R5:=(Q5.other4 om _ _ _ _).below hb4;have B4:Below w.heap.size w w4:=Below.trans (by (exact bt)) (hb4.mono (by simp;have:=B2.size;omega));have hs4:=hb4.size;simp at hs4;clear c1 f1 c4' hb4 Q1 Q2 Q3 Q4 Q5;have c4':=R4.cell;have f4':=R4.free;have c2:=R2.cell
          go_wp2_with fail
          refine (D4.out _).mono ?_;rintro e w5 ⟨rfl,hb5⟩;have T1:=(R1.other4 om _ _ _ _).below hb5;have T2:=(R2.other4 om _ _ _ _).below hb5;have T3:=(R3.other4 om _ _ _ _).below hb5;have T4:=(R4.set4 _ _ _ _).below hb5;have T5:=(R5.other4 om _ _ _ _).below hb5;have B5:Below w.heap.size w w5:=Below.trans (by (exact bt)) (hb5.mono (by simp;have:=B4.size;omega));have hs5:=hb5.size;simp at hs5;clear c4' f4' c2 hb5 R1 R2 R3 R4 R5;have c4':=T4.cell;have f4':=T4.free;have c2:=T2.cell
          go_wp2
          go_roundg m
          case rel =>
           obtain ⟨y1,y2⟩:=NO.out (by have:=HGE.out;omega)
           rw [EI.out]
           exact ⟨by omega,rfl,B5,by omega,by omega,by rw [<- EX'.out];exact T1,T2,by rw [y2];exact T3,by rw [y1];exact T4,T5⟩
          case measure=>omega
       ·have hob : ((ov : Int) != 0) = true := by rw [bne_iff_ne]; omega
        have HGE:=Lib.hid (HV1.out hov)
        clear hov
        rcases hT with hd | ⟨hd,hd2⟩
        all_goals
         go_wp2_with fail
         refine (D1.out _).mono ?_;rintro e w2 ⟨rfl,hb2⟩;have Q1:=P1.below hb2;have Q2:=P2.below hb2;have Q3:=P3.below hb2;have Q4:=P4.below hb2;have Q5:=P5.below hb2;have B2:Below w.heap.size w w2:=B0.trans (hb2.mono B0.size);have hs2:=hb2.size;clear c1 f1 c2 c4' f4' c5 hb2;have c1:=Q1.cell;have f1:=Q1.free;have c4':=Q4.cell
         go_wp2_with fail
         refine (D2.out _).mono ?_;rintro e w4 ⟨rfl,hb4⟩;have R1:=(Q1.set4 _ _ _ _).below hb4;have R2:=(Q2.other4 om _ _ _ _).below hb4;have R3:=(Q3.other4 om _ _ _ _).below hb4;have R4:=(Q4.other4 om _ _ _ _).below hb4;have R5:=(Q5.other4 om _ _ _ _).below hb4;have B4:Below w.heap.size w w4:=Below.trans (by (exact bt)) (hb4.mono (by simp;have:=B2.size;omega));have hs4:=hb4.size;simp at hs4;clear c1 f1 c4' hb4 Q1 Q2 Q3 Q4 Q5;have c4':=R4.cell;have f4':=R4.free;have c2:=R2.cell
         go_wp2_with fail
         refine (D3.out _).mono ?_;rintro e w6 ⟨rfl,hb6⟩;have S1:=(R1.other4 om _ _ _ _).below hb6;have S2:=(R2.other4 om _ _ _ _).below hb6;have S3:=(R3.other4 om _ _ _ _).below hb6;have S4:=(R4.set4 _ _ _ _).below hb6;have S5:=(R5.other4 om _ _ _ _).below hb6;have B6:Below w.heap.size w w6:=Below.trans (by (exact bt)) (hb6.mono (by simp;have:=B4.size;omega));have hs6:=hb6.size;simp at hs6;clear c4' f4' c2 hb6 R1 R2 R3 R4 R5;have c4':=S4.cell;have f4':=S4.free;have f3:=S3.free;have cg:w6.cell? ⟨w.heap.size+1+1+1,g,none⟩=some (.int .u64 (wd q g)):=by rw [S3.cell,oJ q g om]
         go_wp2
         go_region
         go_wp2
         go_roundg m
         case rel =>
          obtain ⟨y1,y2,y3⟩:=YES.out HGE.out
          rw [EI.out,vZ m om]
          refine ⟨by omega,rfl,?_,by omega,by simp;omega,?_,?_,?_,?_,?_⟩
          ·(exact bt)
          ·rw [<- EX'.out];exact ((S1.other4 om _ _ _ _).other om _).drew
          ·exact ((S2.other4 om _ _ _ _).other om _).drew
          ·rw [y2,<- kY q g m om om y3];exact ((S3.other4 om _ _ _ _).set _).drew
          ·rw [y1];exact ((S4.set4 _ _ _ _).other om _).drew
          ·exact ((S5.other4 om _ _ _ _).other om _).drew
         case measure=>omega
def vH (A i:Nat):Bool:=decide (A / 2^i%2=1)
theorem bit_wd (A q i:Nat) (h:i / 64=q):(bits .and .u64 (wd A q / 2^(i%64)) 1==1)=vH A i:=by
 rw [wQ]
 have e1:((A / 2^(64*q)%2^64:Nat):Int) / 2^(i%64)=((A / 2^(64*q)%2^64 / 2^(i%64):Nat):Int):=by simp
 generalize hx:A / 2^(64*q)%2^64 / 2^(i%64)=x at *
 have hlt:x<18446744073709551616:=by
  rw [<- hx]
  exact Nat.lt_of_le_of_lt (Nat.div_le_self _ _) (Nat.mod_lt _ dC)
 have h2:x%2=A / 2^i%2:=by
  rw [<- hx]
  have e64:2^64=2^(i%64)*2^(64-i%64):=by rw [<- Nat.pow_add];congr 1;omega
  rw [e64,Nat.mod_mul_right_div_self,Nat.div_div_eq_div_mul,<- Nat.pow_add,show 64*q+i%64=i by omega]
  exact Nat.mod_mod_of_dvd _ ⟨2^(64-i%64-1),by rw [<- Nat.pow_succ'];congr 1;omega⟩
 rw [e1]
 have h3:=bits_and_u64_nat x 1 hlt om
 have h4:x&&&1=x%2:=Nat.and_one_is_mod x
 rw [h4,h2] at h3
 change (bits .and .u64 (x:Int) ((1:Nat):Int)==1)=_
 rw [h3]
 unfold vH
 by_cases hb:A / 2^i%2=1
 ·rw [hb,decide_eq_true rfl];rfl
 ·rw [decide_eq_false hb]
  have:A / 2^i%2=0:=by omega
  rw [this];rfl
set_option maxHeartbeats 1000000 in
theorem tY (A i:Nat) (w:World) (hi:i<256) :
 Calls prog 152 #[U A,.int .i64 i] w fun e w'=>e=.returned (.bool (vH A i))/\Below w.heap.size w w':=by
 rcases (by omega:(i:Int) / 64=0\/(i:Int) / 64=1\/(i:Int) / 64=2\/(i:Int) / 64=3) with h | h | h | h
 all_goals
  go_enter func152,Tryz.ntmps152
  go_wp2
  go_ret
  first | refine ⟨xU (bit_wd A 0 i om),?_⟩ | refine ⟨xU (bit_wd A 1 i om),?_⟩ | refine ⟨xU (bit_wd A 2 i om),?_⟩ | refine ⟨xU (bit_wd A 3 i om),?_⟩
  (exact bt)
end Go.Proofs.YtcgdimlbbdfdpaaGreatDoor
