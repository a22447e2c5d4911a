/-
  What this statement needs, part 8: the texts of it, one behind the other.
-/
import Derived.Test.YtcgdimlbbdfdpaaGreatDoorBase4
import Derived.Test.YtcgdimlbbdfdpaaGreatDoorBase6
import Derived.Shelf.Strconv.Itoa0
import Derived.Shelf.Bits.Mul64
import Derived.Test.YtcgdimlbbdfdpaaGreatDoorProg
import Derived.Lib.BitFns
set_option maxRecDepth 100000
set_option linter.all false
namespace Go.Proofs.YtcgdimlbbdfdpaaGreatDoor
open Go Go.RowKit _root_.Go.Proofs.Tryz
section
open Go Go.Shelf
def lays129_ren:Go.Shelf.Ren:=⟨fun | 129=>158 | n=>n,fun | 3=>3 | 4=>4 | 5=>5 | 9=>9 | 46=>202 | 53=>29 | n=>n,fun | n=>n⟩
theorem lays129:Go.Proofs.Lays.n129 prog lays129_ren:={
 mixed:=by kernel_rfl
 f129:=func158.trans (congrArg some (by kernel_rfl))
 t3:=underlying3
 a3:=isAgg3
 z3:=sizeOf3
 v3:=zeroValue3
 t4:=underlying4
 a4:=isAgg4
 z4:=sizeOf4
 v4:=zeroValue4
 t5:=underlying5
 a5:=isAgg5
 z5:=sizeOf5
 v5:=zeroValue5
 t9:=underlying9
 a9:=isAgg9
 z9:=sizeOf9
 v9:=zeroValue9
 t46:=underlying202
 a46:=isAgg202
 z46:=sizeOf202
 v46:=zeroValue202
 t53:=underlying29
 a53:=isAgg29
 z53:=sizeOf29
 v53:=zeroValue29}
theorem len64_bit (x:Int) (w:World) (h0:0<=x) (h1:x<=18446744073709551615) :
 Calls prog 158 #[.int .u64 x] w fun e w'=>e=.returned (.int .i64 (Lib.bitLen x.toNat))/\w'=w:=Any.bits_Len64 lays129 x w h0 h1
def lays264_ren:Go.Shelf.Ren:=⟨fun | 264=>184 | n=>n,fun | 46=>202 | 53=>29 | n=>n,fun | n=>n⟩
theorem lays264:Go.Proofs.Lays.n264 prog lays264_ren:={
 mixed:=by kernel_rfl
 f264:=func184.trans (congrArg some (by kernel_rfl))
 t46:=underlying202
 a46:=isAgg202
 z46:=sizeOf202
 v46:=zeroValue202
 t53:=underlying29
 a53:=isAgg29
 z53:=sizeOf29
 v53:=zeroValue29}
theorem mul64_nat (x y:Nat) (hx:x<18446744073709551616) (hy:y<18446744073709551616) (w:World) :
 Calls prog 184 #[.int .u64 x,.int .u64 y] w fun e w'=>e=.returned (.tuple #[.int .u64 ((x*y / 18446744073709551616:Nat):Int),.int .u64 ((x*y%18446744073709551616:Nat):Int)])/\w'=w:=Any.bits_Mul64 lays264 x y hx hy w
end
def wG (A:Nat):Nat:=if A=0 then 0 else Nat.log2 A+1
theorem lenN_of {A k:Nat} (h1:2^k<=A) (h2:A<2^(k+1)):wG A=k+1:=by
 have h0:A≠0:=by have:0<2^k:=Nat.pow_pos dC;omega
 unfold wG
 rw [if_neg h0]
 have a:=(Nat.le_log2 h0).2 h1
 have b:=(Nat.log2_lt h0).2 h2
 omega
theorem bitLen_lenN (x:Nat) (h:x<18446744073709551616):Lib.bitLen x=wG x:=by
 by_cases h0:x=0
 ·subst h0;rfl
 ·have h1 := Nat.log2_self_le h0
  have h2:x<2^(Nat.log2 x+1):=(Nat.log2_lt h0).1 om
  rw [Lib.bitLen_shift (Nat.log2 x) x h1 h,lenN_of h1 h2]
  have:x / 2^Nat.log2 x=1:=by
   apply Nat.div_eq_of_lt_le
   ·omega
   ·rw [Nat.pow_succ] at h2;omega
  rw [this];rfl
theorem len64_any (x:Int) (w:World) (hx:Word x) :
 Calls prog 158 #[.int .u64 x] w fun e w'=>e=.returned (.int .i64 (wG x.toNat))/\w=w':=by
 have h:=len64_bit x w hx.1 (by have:=hx.2;omega)
 rw [bitLen_lenN _ (by have:=hx.1;have:=hx.2;omega)] at h
 exact h.mono fun e w' ⟨a,b⟩=>⟨a,b.symm⟩
theorem bit_lt {A m:Nat} (h:A<2^(m+1)) (hb:vH A m=false):A<2^m:=by
 unfold vH at hb
 have:=of_decide_eq_false hb
 have h2:A / 2^m<2:=by rw [Nat.div_lt_iff_lt_mul (Nat.pow_pos dC)];rw [Nat.pow_succ] at h;omega
 have h3:A / 2^m=0:=by generalize A / 2^m=y at *;omega
 exact Nat.lt_of_div_eq_zero (Nat.pow_pos dC) h3
theorem bit_ge {A m:Nat} (hb:vH A m=true):2^m<=A:=by
 unfold vH at hb
 have h1:=of_decide_eq_true hb
 refine Nat.le_of_not_lt (fun h=>?_)
 rw [Nat.div_eq_of_lt h] at h1
 omega
set_option maxHeartbeats 1000000 in
theorem rlen_any (A : Nat) (w : World) (hA : A < M) :
 Calls prog 209 #[U A] w fun e w'=>e=.returned (.int .i64 (wG A))/\Below w.heap.size w w':=by
 obtain ⟨n,en⟩:∃ n,n=wG A:=⟨_,rfl⟩
 rw [<- en]
 have EN:=Lib.hid en
 clear en
 go_enter func209,Tryz.ntmps209
 go_wp2
 go_loopg [3] 256 (fun k p wr=>k<=256/\p=.int .i64 (k-1)/\Hid (A<2^k)/\Own wr w.heap.size (cU A)/\Below w.heap.size w wr)
 case atStart=>exact ⟨by omega,rfl,Lib.hid (by rw [<- M_pow];exact hA),Own.new _,(Below.refl _ _).alloc (Nat.le_refl _) _⟩
 case round =>
  obtain ⟨hk,rfl,hlt,O,hB⟩:=hrel
  by_cases hk0:gk=0
  ·subst hk0
   go_wp2
   go_ret
   refine ⟨ret_i64 ?_,hB⟩
   have:=hlt.out
   rw [EN.out,show A=0 by simpa using this];rfl
  ·obtain ⟨m, rfl⟩ : ∃ m, gk = m + 1 := ⟨gk - 1, by omega⟩
   have eg:((m+1:Nat):Int)-1=m:=by omega
   rw [eg]
   clear eg
   have c0:=O.cell
   have m256:m<256:=by omega
   cases hb:vH A m with
   | true =>
     have L:=Lib.hid (fun W=>tY A m W m256)
     rw [hb] at L
     have HB:=Lib.hid hb
     clear hb
     go_wp2_with fail
     refine (L.out _).mono ?_;rintro e w1 ⟨rfl,hb1⟩
     go_wp2
     go_ret
     refine ⟨ret_i64 ?_,hB.trans (hb1.mono hB.size)⟩
     rw [EN.out,lenN_of (bit_ge HB.out) hlt.out];omega
   | false =>
     have L:=Lib.hid (fun W=>tY A m W m256)
     rw [hb] at L
     have HB:=Lib.hid hb
     clear hb
     go_wp2_with fail
     refine (L.out _).mono ?_;rintro e w1 ⟨rfl,hb1⟩
     go_wp2
     go_roundg m
     case rel=>exact ⟨by omega,rfl,Lib.hid (bit_lt hlt.out HB.out),O.below hb1,hB.trans (hb1.mono hB.size)⟩
     case measure=>omega
end Go.Proofs.YtcgdimlbbdfdpaaGreatDoor
