/-
  What this statement needs, part 6: the texts of it, one behind the other.
-/
import Derived.Test.YtegagmoldjiaaaaGreatDoorBase5
import Derived.LaidLaws
import Derived.ChangeArms
import Derived.WideShapes
set_option maxRecDepth 100000
namespace Go.Proofs.YtegagmoldjiaaaaGreatDoor
open Go Go.RowKit
open Go Go.ChangeShapes Go.WideShapes Go.RowKit
def rdLaid:List (String × DataW Unit):=[("math/bits.deBruijn32tab",Rows.laid_math_bits_deBruijn32tab),("math/bits.deBruijn64tab",Rows.laid_math_bits_deBruijn64tab),("internal/strconv.uint64pow10",Rows.laid_internal_strconv_uint64pow10),("lightclient/sha.k",Rows.laid_lightclient_sha_k),("lightclient/sha.initial",Rows.laid_lightclient_sha_initial),("strconv.ErrRange",Rows.laid_strconv_ErrRange),("strconv.ErrSyntax",Rows.laid_strconv_ErrSyntax)]
theorem er_cell {W:World} {nm:String} {g:Nat} {t:TypeId} {cs:Array Value} {fuel:Nat} {name:String} {d:DataW Unit} {p:List MemPlace} {ms:Array (String × TypeId)} (hg:Tryz.prog.globalNamed nm=some g) (hi:Tryz.prog.underlying t=some (.interface ms)) (hv:W.var? Tryz.prog nm=some cs) (hd:DataW.trod (fun _=>()) Tryz.prog W 0 (fun _=>true) false fuel t cs.toList=some (.iface name d,p)):ErC W g:=by
  obtain ⟨_,u,v,hc,_⟩:=iface_of_trod hi hd
  have e:cs= #[.iface u v]:=by rw [← Array.toArray_toList (xs:=cs),hc]
  subst e
  exact ⟨.iface u v,World.var?_cell hg hv 0,Or.inr ⟨u,v,rfl⟩⟩
theorem laid_rd {W:World} (h:laidMetH Tryz.prog rdLaid W):Kb W 1 (bY .u32 64 kN)∧fU W∧xB W∧qI W:=by
  rw [MakeChecks.laidMetH_plain _ _ _ (by kernel_rfl)] at h
  obtain ⟨ps,⟨g0,t0,cs0,f0,p0,q0,hg0,ht0,hv0,hd0,⟨g1,t1,cs1,f1,p1,q1,hg1,ht1,hv1,hd1,⟨g2,t2,cs2,f2,p2,q2,hg2,ht2,hv2,hd2,⟨g3,t3,cs3,f3,p3,q3,hg3,ht3,hv3,hd3,⟨g4,t4,cs4,f4,p4,q4,hg4,ht4,hv4,hd4,⟨g5,t5,cs5,f5,p5,q5,hg5,ht5,hv5,hd5,⟨g6,t6,cs6,f6,p6,q6,hg6,ht6,hv6,hd6,_,_⟩,_⟩,_⟩,_⟩,_⟩,_⟩,_⟩,_,_⟩:=h
  have n2:Tryz.prog.globalNamed "internal/strconv.uint64pow10" = some 2:=by kernel_rfl
  obtain rfl:=Option.some.inj (n2.symm.trans hg2)
  obtain rfl:=Option.some.inj ((show (Tryz.prog.globals[2]?).map (·.type)=some 163 by kernel_rfl).symm.trans ht2)
  have d2:(Rows.laid_internal_strconv_uint64pow10:DataW Unit)=Lib.tabData .u64 Lib.pow10Tab:=by kernel_rfl
  rw [d2] at hd2
  have c2:=Lib.cells_of_tab Tryz.underlying163 Tryz.underlying52 (by kernel_rfl) (by kernel_rfl) hd2
  have i2:Lib.TabIs Tryz.prog W "internal/strconv.uint64pow10" .u64 Lib.pow10Tab:=by unfold Lib.TabIs;rw [hv2,← c2]
  have n3:Tryz.prog.globalNamed "lightclient/sha.k" = some 1:=by kernel_rfl
  obtain rfl:=Option.some.inj (n3.symm.trans hg3)
  obtain rfl:=Option.some.inj ((show (Tryz.prog.globals[1]?).map (·.type)=some 145 by kernel_rfl).symm.trans ht3)
  have d3:(Rows.laid_lightclient_sha_k:DataW Unit)=Lib.tabData .u32 zsK:=by kernel_rfl
  rw [d3] at hd3
  have c3:=Lib.cells_of_tab Tryz.underlying145 Tryz.underlying45 (by kernel_rfl) (by kernel_rfl) hd3
  have i3:Lib.TabIs Tryz.prog W "lightclient/sha.k" .u32 zsK:=by unfold Lib.TabIs;rw [hv3,← c3]
  have n4:Tryz.prog.globalNamed "lightclient/sha.initial" = some 0:=by kernel_rfl
  obtain rfl:=Option.some.inj (n4.symm.trans hg4)
  obtain rfl:=Option.some.inj ((show (Tryz.prog.globals[0]?).map (·.type)=some 111 by kernel_rfl).symm.trans ht4)
  have d4:(Rows.laid_lightclient_sha_initial:DataW Unit)=Lib.tabData .u32 zsI:=by kernel_rfl
  rw [d4] at hd4
  have c4:=Lib.cells_of_tab Tryz.underlying111 Tryz.underlying45 (by kernel_rfl) (by kernel_rfl) hd4
  have i4:Lib.TabIs Tryz.prog W "lightclient/sha.initial" .u32 zsI:=by unfold Lib.TabIs;rw [hv4,← c4]
  have n5:Tryz.prog.globalNamed "strconv.ErrRange" = some 4:=by kernel_rfl
  obtain rfl:=Option.some.inj (n5.symm.trans hg5)
  obtain rfl:=Option.some.inj ((show (Tryz.prog.globals[4]?).map (·.type)=some 119 by kernel_rfl).symm.trans ht5)
  have n6:Tryz.prog.globalNamed "strconv.ErrSyntax" = some 3:=by kernel_rfl
  obtain rfl:=Option.some.inj (n6.symm.trans hg6)
  obtain rfl:=Option.some.inj ((show (Tryz.prog.globals[3]?).map (·.type)=some 119 by kernel_rfl).symm.trans ht6)
  exact ⟨kb_tab (fun i hi=>i3.cell n3 i hi) (by kernel_rfl),kb_tab (fun i hi=>i4.cell n4 i hi) (by kernel_rfl),i2,er_cell n6 Tryz.underlying119 hv6 hd6,er_cell n5 Tryz.underlying119 hv5 hd5⟩
theorem door_rd (os:Os) (args:Array Value):laidMetH Tryz.prog rdLaid ((World.doorLaid Tryz.prog 400 os).forCall (fun _ _=>0) ⟨#[],args,[]⟩).memory :=
  laidMetH_of_parts3 (fuel:=8) (laidMet_of_run' 8 (by kernel_rfl) (by kernel_rfl)) (by kernel_rfl) (by kernel_rfl)
section
variable {H : Type} {enc : TypeId × Value → H} {w : World} {base : Nat} {spare : Nat → Bool} {held : Bool} {fuel : Nat} {cs : List Value} {x : DataW H × List MemPlace}
end
theorem open_ilist {H : Type} {enc : TypeId × Value → H} {w : World} {r : Reach} {base base' : Nat} {held : Bool} {v : Value} {d : DataW H} {p : List MemPlace} {t e : TypeId} {k : IntKind} (ht : Tryz.prog.underlying t = some (.slice e)) (he : Tryz.prog.underlying e = some (.int k)) (hce : Tryz.prog.cellsOf e = 1)
    (hok:Value.okWide Tryz.prog w r base t v) (h:DataW.Trod enc Tryz.prog w base' (fun _=>true) held t v d p) (hs:∀ elems spare,d=.slice elems spare→elems.length+spare.length≤140737488351232) :
    ∃ a c zs,v=.slice a (List.length zs) c∧Is w k a c zs∧∀ z∈zs,(Lit.int k z).wf=true:=by
  obtain ⟨a0,len,cap,rfl⟩:=okWide_slice ht hok
  obtain ⟨fuel,hf⟩:=h
  rcases open_ints ht he hce hf with ⟨hcs,_⟩ | ⟨a,len',cap',zs,hcs,_,hle,_,hlen,hx,hcell,hwf⟩
  · simp [Value.cells] at hcs
    obtain ⟨rfl,rfl,rfl⟩:=hcs
    exact ⟨none,0,[],rfl,Is.nil,by simp⟩
  · simp [Value.cells] at hcs
    obtain ⟨rfl,rfl,rfl⟩:=hcs
    simp only [if_true] at hlen
    have hd:=congrArg Prod.fst hx
    have hsz:=hs _ _ hd
    have hsz':zs.length≤140737488351232:=by simpa [lits,hlen,hle] using hsz
    refine ⟨some a,cap,zs.take len,?_,⟨?_,?_,?_⟩,fun z hz=>hwf z (List.mem_of_mem_take hz)⟩
    · rw [List.length_take,Nat.min_eq_left (by omega)]
    · rw [List.length_take];omega
    · rw [List.length_take];omega
    · refine Or.inr ⟨a, rfl, ?_⟩
      intro i u hu
      unfold iv at hu
      rw [List.getElem?_map] at hu
      obtain ⟨z,hz,rfl⟩:=Option.map_eq_some_iff.1 hu
      have hi:i<zs.length:=by
        have:=(List.getElem?_eq_some_iff.1 hz).1
        rw [List.length_take] at this
        omega
      have hzi:zs.getD i 0=z:=by
        rw [List.getElem?_take] at hz
        split at hz
        · simp [List.getD,hz]
        · exact absurd hz (by simp)
      rw [hcell i hi,hzi]
end Go.Proofs.YtegagmoldjiaaaaGreatDoor
