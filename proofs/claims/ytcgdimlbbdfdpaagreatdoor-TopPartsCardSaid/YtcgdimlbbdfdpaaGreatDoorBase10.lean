/-
  What this statement needs, part 10: the texts of it, one behind the other.
-/
import Derived.Test.YtcgdimlbbdfdpaaGreatDoorBase4
import Derived.Test.YtcgdimlbbdfdpaaGreatDoorBase5
import Derived.ProofKit
import Derived.OpenShut
import Derived.Test.YtcgdimlbbdfdpaaGreatDoorChecked
import Derived.SizedLaws
import Derived.ChangeSlices
import Derived.ChangeMaps5
import Derived.Test.YtcgdimlbbdfdpaaGreatDoorRows
import Derived.LaidMore
import Derived.LaidHandle
import Derived.MakeChecks
import Derived.Lib.LaidTab
set_option maxRecDepth 100000
set_option linter.all false
namespace Go.Proofs.YtcgdimlbbdfdpaaGreatDoor
open Go Go.RowKit _root_.Go.Proofs.Tryz
section
open Go Go.ChangeShapes Go.WideShapes Go.RowKit
theorem laidOut:laidOutB prog=true:=by kernel_rfl
theorem own:ownKnob prog.godebug=none:=by kernel_rfl
end
section
open Go Go.ChangeShapes Go.WideShapes Go.RowKit
theorem tX {k:IntKind} (hk:k.signed=false) {x:Int} (h:(Lit.int k x).wf=true):∃ n:Nat,x=(n:Int)/\n<2^k.bits:=by
 have h0:k.min<=x/\x<=k.max:=by simpa [Lit.wf] using h
 have h1:k.min=0:=by cases k<;>first | rfl | exact absurd hk dC
 have h2:k.max=((2^k.bits:Nat):Int)-1:=by cases k<;>first | rfl | exact absurd hk dC
 exact ⟨x.toNat,by omega,by omega⟩
theorem open_bytes {H : Type} {enc : TypeId × Value -> H} {w : World} {r : Reach} {base base' : Nat} {held : Bool} {v : Value} {d : DataW H} {p : List MemPlace}
 (hok:Value.okWide prog w r base 22 v) (h:DataW.Trod enc prog w base' (fun _=>true) held 22 v d p) (hs:∀ elems spare,d=.slice elems spare->elems.length+spare.length<=140737488351232) :
 ∃ a c xs,v=.slice a (List.length xs) c/\Bs w a c xs:=by
 obtain ⟨a0,len,cap,rfl⟩:=okWide_slice underlying22 hok
 obtain ⟨fuel,hf⟩:=h
 rcases open_ints underlying22 underlying5 (by kernel_rfl) hf with ⟨hcs,_⟩ | ⟨a,len',cap',zs,hcs,_,hle,_,hlen,hx,hcell,hwf⟩
 ·simp [Value.cells] at hcs
  obtain ⟨rfl,rfl,rfl⟩:=hcs
  exact ⟨none,0,[],rfl,Bs.nil⟩
 ·simp [Value.cells] at hcs
  obtain ⟨rfl,rfl,rfl⟩:=hcs
  simp only [if_true] at hlen
  have hd:=congrArg Prod.fst hx
  have hsz:=hs _ _ hd
  have hsz':zs.length<=140737488351232:=by simpa [lits,hlen,hle] using hsz
  refine ⟨some a,cap,(zs.take len).map ob,?_,?_,?_,?_⟩
  ·rw [List.length_map,List.length_take,Nat.min_eq_left om]
  ·rw [List.length_map,List.length_take];omega
  ·rw [List.length_map,List.length_take];omega
  ·refine Or.inr ⟨a, rfl, ?_⟩
   intro i u hu
   obtain ⟨x,hx1,rfl⟩:=bs_get hu
   rw [List.getElem?_map] at hx1
   obtain ⟨z,hz,rfl⟩:=Option.map_eq_some_iff.1 hx1
   have hi:i<zs.length:=by
    have:=(List.getElem?_eq_some_iff.1 hz).1
    rw [List.length_take] at this
    omega
   have hzi:zs.getD i 0=z:=by
    rw [List.getElem?_take] at hz
    split at hz
    ·simp [List.getD,hz]
    ·exact absurd hz (by simp)
   rw [hcell i hi,hzi]
   have hm:z∈zs:=by
    have:=List.mem_of_getElem? hz
    exact List.mem_of_mem_take this
   have hw:=hwf z hm
   simp [Lit.wf,IntKind.min,IntKind.max,IntKind.signed,IntKind.bits] at hw
   rw [bv_ob om]
end
section
open Go Go.ChangeShapes Go.WideShapes Go.RowKit
def xO:List (String × DataW Unit):=[("lightclient/sha.k",Rows.laid_lightclient_sha_k),("lightclient/sha.initial",Rows.laid_lightclient_sha_initial)]
def zsK:List Int:=kL.map fun (x:Nat)=>(x:Int)
def zsI:List Int:=[1779033703,3144134277,1013904242,2773480762,1359893119,2600822924,528734635,1541459225]
theorem kb_tab {W:World} {g:Nat} {zs:List Int} {C:Array Value} (hc:∀ i,i<zs.length->W.cell? ⟨g,i,none⟩=some (.int .u32 (zs.getD i 0))) (hC:C=(zs.map (Value.int .u32)).toArray):Kb W g C:=by
 intro i v hv
 rw [hC,List.getElem?_toArray,List.getElem?_map] at hv
 obtain ⟨z,hz,rfl⟩:=Option.map_eq_some_iff.1 hv
 have hi:=(List.getElem?_eq_some_iff.1 hz).1
 rw [hc i hi]
 simp [List.getD,hz]
theorem laid_two {W:World} (h:laidMetH prog xO W):Kb W 1 (bG .u32 64 kN)/\Kb W 0 #[.int .u32 1779033703,.int .u32 3144134277,.int .u32 1013904242,.int .u32 2773480762,.int .u32 1359893119,.int .u32 2600822924,.int .u32 528734635,.int .u32 1541459225]:=by
 rw [MakeChecks.laidMetH_plain _ _ _ (by kernel_rfl)] at h
 obtain ⟨ps,⟨g0,t0,cs0,f0,p0,q0,hg0,ht0,hv0,hd0,⟨g1,t1,cs1,f1,p1,q1,hg1,ht1,hv1,hd1,_,_⟩,_⟩,_,_⟩:=h
 have n0:prog.globalNamed "lightclient/sha.k" = some 1:=by kernel_rfl
 have n1:prog.globalNamed "lightclient/sha.initial" = some 0:=by kernel_rfl
 obtain rfl:=Option.some.inj (n0.symm.trans hg0)
 obtain rfl:=Option.some.inj (n1.symm.trans hg1)
 obtain rfl:=Option.some.inj ((show (prog.globals[1]?).map (·.type)=some 285 by kernel_rfl).symm.trans ht0)
 obtain rfl:=Option.some.inj ((show (prog.globals[0]?).map (·.type)=some 245 by kernel_rfl).symm.trans ht1)
 have d0:(Rows.laid_lightclient_sha_k:DataW Unit)=Lib.tabData .u32 zsK:=by kernel_rfl
 have d1:(Rows.laid_lightclient_sha_initial:DataW Unit)=Lib.tabData .u32 zsI:=by kernel_rfl
 rw [d0] at hd0
 rw [d1] at hd1
 have c0:=Lib.cells_of_tab underlying285 underlying24 (by kernel_rfl) (by kernel_rfl) hd0
 have c1:=Lib.cells_of_tab underlying245 underlying24 (by kernel_rfl) (by kernel_rfl) hd1
 have i0:Lib.TabIs prog W "lightclient/sha.k" .u32 zsK:=by unfold Lib.TabIs;rw [hv0,<- c0]
 have i1:Lib.TabIs prog W "lightclient/sha.initial" .u32 zsI:=by unfold Lib.TabIs;rw [hv1,<- c1]
 exact ⟨kb_tab (fun i hi=>i0.cell n0 i hi) (by kernel_rfl),kb_tab (fun i hi=>i1.cell n1 i hi) (by kernel_rfl)⟩
theorem door_met (os:Os) (args:Array Value):laidMetH prog xO ((World.doorLaid prog 400 os).forCall (fun _ _=>0) ⟨#[],args,[]⟩).memory :=
 laidMetH_of_parts3 (fuel:=8) (laidMet_of_run' 8 (by kernel_rfl) (by kernel_rfl)) (by kernel_rfl) (by kernel_rfl)
end
end Go.Proofs.YtcgdimlbbdfdpaaGreatDoor
