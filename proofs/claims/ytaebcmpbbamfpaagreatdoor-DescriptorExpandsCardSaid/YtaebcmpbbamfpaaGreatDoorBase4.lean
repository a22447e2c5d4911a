/-
  What this statement needs, part 4: the texts of it, one behind the other.
-/
import Derived.Test.YtaebcmpbbamfpaaGreatDoorBase3
set_option maxRecDepth 100000
namespace Go.Proofs.YtaebcmpbbamfpaaGreatDoor
open Go Go.RowKit
theorem fU (g:Nat) (a:Option Addr) (c:Nat) (zs:List Int) (j:Nat) (hz:Z64 zs) (w0:World) (hK:Knows [(g,(cL #[.slice a zs.length c,vn (pN zs j)] 59))] w0) (hP:dL (fun b=>b∈([(g,(cL #[.slice a zs.length c,vn (pN zs j)] 59))]:List (Nat × Obj)).map (·.1)) (fun w=>Is w .i64 a c zs∧True) w0):Calls Tryz.prog 19 #[pt g] w0 (fun ε w'=>∃ α κ,ε=.returned (.agg (kM (bU zs j).s (bU zs j).p (bU zs j).c (bU zs j).d (((bU zs j).i:Nat):Int) (((bU zs j).n:Nat):Int) (.slice α (nI (iT zs j)).length κ) (.bool (pX zs j))))∧nN (fun b=>b∈([(g,(cL #[.slice a zs.length c,vn (pN zs j)] 59))]:List (Nat × Obj)).map (·.1)) w0 w'∧Knows [(g,(cL #[.slice a zs.length c,vn (pN zs (j+(9+bI zs j)))] 59))] w'∧Fi w0 w' .u32 α κ (nI (iT zs j))):=by
 refine Calls.of_okW (n:=29) (F:=(fun w=>Is w .i64 a c zs∧True)) [(g,(cL #[.slice a zs.length c,vn (pN zs j)] 59))] Tryz.func19 rfl rfl rfl (by simp) hK (by simp) hP ?_
 refine sS Tryz.f19 1 [0,2] [] (fun ρ=>[pt (nb ρ 0)]) (fun ρ=>[(0,(nw ρ 0 (cL (kM 0 0 0 0 0 0 vz vF) 51)))]) (jE [[]]) (fun ρ1=>?_)
 refine sS Tryz.f19 11 [0,2,3] [] (fun ρ=>let qa:Value:=.bool (((dN zs (j+7) 2:Nat):Int)==0);[pt g,pt g,vn (dN zs j 3),.bool (((dN zs j 3:Nat):Int)==0),.agg (kY (mkK zs (j+1) (((dN zs j 3:Nat):Int)==0))),pt g,vn (dN zs (j+7) 2),qa,.agg (kM (mkK zs (j+1) (((dN zs j 3:Nat):Int)==0)).s (mkK zs (j+1) (((dN zs j 3:Nat):Int)==0)).p (mkK zs (j+1) (((dN zs j 3:Nat):Int)==0)).c (mkK zs (j+1) (((dN zs j 3:Nat):Int)==0)).d (((mkK zs (j+1) (((dN zs j 3:Nat):Int)==0)).i:Nat):Int) (((mkK zs (j+1) (((dN zs j 3:Nat):Int)==0)).n:Nat):Int) vz qa),pt (nb ρ 9),undef]) (fun ρ=>[(2,(bD 0 g (cL #[.slice a zs.length c,vn (pN zs (j+1))] 59))),(4,(bD 0 g (cL #[.slice a zs.length c,vn (pN zs (j+7))] 59))),(6,(bD 0 g (cL #[.slice a zs.length c,vn (pN zs (j+8))] 59))),(9,(nw ρ 9 (cL (kM 0 0 0 0 0 0 vz vF) 51))),(10,(bD 74 (nb ρ 9) (cL (kM (mkK zs (j+1) (((dN zs j 3:Nat):Int)==0)).s (mkK zs (j+1) (((dN zs j 3:Nat):Int)==0)).p (mkK zs (j+1) (((dN zs j 3:Nat):Int)==0)).c (mkK zs (j+1) (((dN zs j 3:Nat):Int)==0)).d (((mkK zs (j+1) (((dN zs j 3:Nat):Int)==0)).i:Nat):Int) (((mkK zs (j+1) (((dN zs j 3:Nat):Int)==0)).n:Nat):Int) vz (.bool (((dN zs (j+7) 2:Nat):Int)==0))) 51)))]) (cR [[],[]]<|cX (qW [0] (fun _ _ w hG hK=>next_any g a c zs j 3 (by decide) hz w hK (hG.pK [0] (fun _ hF=>⟨hF.1,trivial⟩))))<|cR [[]]<|cX (qW [0] (fun _ _ w hG hK=>mkey_any g a c zs (j+1) (((dN zs j 3:Nat):Int)==0) hz w hK (hG.pK [0] (fun _ hF=>⟨hF.1,trivial⟩))))<|cR [[]]<|cX (qW [0] (fun _ _ w hG hK=>next_any g a c zs (j+7) 2 (by decide) hz w hK (hG.pK [0] (fun _ hF=>⟨hF.1,trivial⟩))))<|jE [[],[],[],[74]]) (fun ρ2=>?_)
 refine aB ?_
 refine sS Tryz.f19 3 [0,2,3,4] [] (fun _=>[pt g,vn (dN zs (j+8) 2),vn (dN zs (j+8) 2)]) (fun _=>[(1,(bD 0 g (cL #[.slice a zs.length c,vn (pN zs (j+9))] 59)))]) (cR [[]]<|cX (qW [0] (fun _ _ w hG hK=>next_any g a c zs (j+8) 2 (by decide) hz w hK (hG.pK [0] (fun _ hF=>⟨hF.1,trivial⟩))))<|jE [[]]) (fun _=>?_)
 refine aI ?_
 refine jY 2 ?_
 refine dI ?_
 refine aB (jJ Tryz.f19 2 [0,2,3,4,16,17] [vn (dN zs (j+8) 2),.bool (decide (0<((dN zs (j+8) 2:Nat):Int)))] ?_)
 refine oC (decide (0<((dN zs (j+8) 2:Nat):Int))) (fun hb1=>?_) (fun hb1=>?_)
 ·
  rw [hb1]
  refine aG (aA (aB (aI ?_)))
  refine rD Tryz.f19 [0,1,0,4,12,28,63,127,255] 9 [0,2,3,4,16,17,20,21,22,23,24,25,26,27] [] (fun ρ=>[jp (nb ρ2 9) 43,vz,pt g,vn (dN zs (j+9) 4),vu (dN zs (j+9) 4),vs (nb ρ 5) 1 1,vs (nb ρ 6) 1 (1+aZ ρ 6),jp (nb ρ2 9) 43,undef]) (fun ρ=>[(3,(bD 0 g (cL #[.slice a zs.length c,vn (pN zs (j+10))] 59))),(5,(nw ρ 5 (cL #[vu (dN zs (j+9) 4)] 41))),(6,(nw ρ 6 (cL ([vu (dN zs (j+9) 4)].toArray++Builtin.zeroCells (Value.cells (.int .u32 0)) (aZ ρ 6)) 41))),(8,(bD 2 (nb ρ2 9) (cL (kM (mkK zs (j+1) (((dN zs j 3:Nat):Int)==0)).s (mkK zs (j+1) (((dN zs j 3:Nat):Int)==0)).p (mkK zs (j+1) (((dN zs j 3:Nat):Int)==0)).c (mkK zs (j+1) (((dN zs j 3:Nat):Int)==0)).d (((mkK zs (j+1) (((dN zs j 3:Nat):Int)==0)).i:Nat):Int) (((mkK zs (j+1) (((dN zs j 3:Nat):Int)==0)).n:Nat):Int) (vs (nb ρ 6) 1 (1+aZ ρ 6)) (.bool (((dN zs (j+7) 2:Nat):Int)==0))) 51)))]) (cR [[],[2],[]]<|cX (qW [0] (fun _ _ w hG hK=>next_any g a c zs (j+9) 4 (by decide) hz w hK (hG.pK [0] (fun _ hF=>⟨hF.1,trivial⟩))))<|cA (v:=fun ρ=>(.int .u32 (IntKind.u32.wrap ((dN zs (j+9) 4:Nat):Int)))) (fun _=>(vu (dN zs (j+9) 4))) (fun _=>jN (u32N (Nat.lt_of_lt_of_le (iG zs (j+9) (by decide)) (by decide))))<|cR [[]]<|cX (qN (fun _ ζ=>(vs (ζ.headD 0) 1 (1+ζ.tail.headD 0))) (fun _ ζ=>(cL ([vu (dN zs (j+9) 4)].toArray++Builtin.zeroCells (Value.cells (.int .u32 0)) (ζ.tail.headD 0)) 41)) (fun ρ _ _ hG=>uV (ty:=49) Tryz.underlying49 (dA (sz:=1) (b:=4) (z:=(.int .u32 0)) (by kernel_rfl) rfl) (nX (c:=1) (vs:=[vu (dN zs (j+9) 4)]) Tryz.underlying49 (hG.kn (g:=nb ρ 5) (o:=(cL #[vu (dN zs (j+9) 4)] 41)) 43) rfl rfl) (by decide) (by decide) (by decide)))<|jE [[],[2]]) (fun ρ5=>?_)
  refine aJ (aA ?_)
  refine rS Tryz.f19 3 [0,2,3,4,16,17,18,19,20,21,22,23,24,25,26,27] [] (fun _=>let qa:=vn (dN zs (j+8) 2-1);[vn (dN zs (j+8) 2),qa,qa]) (fun _=>[]) (cR [[]]<|jW (fun ρ=>(((dN zs (j+8) 2:Nat):Int)-1)) (fun _=>(dN zs (j+8) 2-1)) (fun _=>((gZ (by have:=yT hb1;have:=iG zs (j+8) (n:=2) (by decide);omega)).trans (by have:=yT hb1;omega)))<|jE [[]]) (fun _=>?_)
  refine dV ?_
  refine dI ?_
  refine aB ?_
  refine sS Tryz.f19 2 [0,2,3,4,16,17,18,19,20,21,22,23,24,25,26,27] [] (fun _=>[vn (dN zs (j+8) 2-1),vF]) (fun _=>[]) (cR [[]]<|jQ (fun ρ=>(decide (0<((dN zs (j+8) 2-1:Nat):Int)))) false (fun _=>(decide_eq_false (by have:=iG zs (j+8) (n:=2) (by decide);omega)))<|cN) (fun _=>?_)
  refine lK [(0,(pt g)),(2,(pt (nb ρ1 0))),(3,(pt (nb ρ2 9))),(4,(vn (dN zs (j+8) 2-1))),(16,(vn (dN zs (j+8) 2-1))),(17,vF),(18,(vn (dN zs (j+8) 2))),(19,(vn (dN zs (j+8) 2-1))),(20,(jp (nb ρ2 9) 43)),(21,vz),(22,(pt g)),(23,(vn (dN zs (j+9) 4))),(24,(vu (dN zs (j+9) 4))),(25,(vs (nb ρ5 5) 1 1)),(26,(vs (nb ρ5 6) 1 (1+aZ ρ5 6))),(27,(jp (nb ρ2 9) 43))] [(g,(cL #[.slice a zs.length c,vn (pN zs (j+10))] 59)),(nb ρ1 0,(cL (kM 0 0 0 0 0 0 vz vF) 51)),(nb ρ2 9,(cL (kM (mkK zs (j+1) (((dN zs j 3:Nat):Int)==0)).s (mkK zs (j+1) (((dN zs j 3:Nat):Int)==0)).p (mkK zs (j+1) (((dN zs j 3:Nat):Int)==0)).c (mkK zs (j+1) (((dN zs j 3:Nat):Int)==0)).d (((mkK zs (j+1) (((dN zs j 3:Nat):Int)==0)).i:Nat):Int) (((mkK zs (j+1) (((dN zs j 3:Nat):Int)==0)).n:Nat):Int) (vs (nb ρ5 6) 1 (1+aZ ρ5 6)) (.bool (((dN zs (j+7) 2:Nat):Int)==0))) 51)),(nb ρ5 5,(cL #[vu (dN zs (j+9) 4)] 41)),(nb ρ5 6,(cL ([vu (dN zs (j+9) 4)].toArray++Builtin.zeroCells (Value.cells (.int .u32 0)) (aZ ρ5 6)) 41))] ?_
  refine oN ?_
  refine bF (aN (aN (aT (aA ?_))))
  refine sS Tryz.f19 2 [2] [1,1,0,0,1] (fun _=>[.agg (kM (mkK zs (j+1) (((dN zs j 3:Nat):Int)==0)).s (mkK zs (j+1) (((dN zs j 3:Nat):Int)==0)).p (mkK zs (j+1) (((dN zs j 3:Nat):Int)==0)).c (mkK zs (j+1) (((dN zs j 3:Nat):Int)==0)).d (((mkK zs (j+1) (((dN zs j 3:Nat):Int)==0)).i:Nat):Int) (((mkK zs (j+1) (((dN zs j 3:Nat):Int)==0)).n:Nat):Int) (vs (nb ρ5 6) 1 (1+aZ ρ5 6)) (.bool (((dN zs (j+7) 2:Nat):Int)==0))),undef]) (fun _=>[(1,(bD 1 (nb ρ1 0) (cL (kM (mkK zs (j+1) (((dN zs j 3:Nat):Int)==0)).s (mkK zs (j+1) (((dN zs j 3:Nat):Int)==0)).p (mkK zs (j+1) (((dN zs j 3:Nat):Int)==0)).c (mkK zs (j+1) (((dN zs j 3:Nat):Int)==0)).d (((mkK zs (j+1) (((dN zs j 3:Nat):Int)==0)).i:Nat):Int) (((mkK zs (j+1) (((dN zs j 3:Nat):Int)==0)).n:Nat):Int) (vs (nb ρ5 6) 1 (1+aZ ρ5 6)) (.bool (((dN zs (j+7) 2:Nat):Int)==0))) 51)))]) (jE [[2],[1]]) (fun _=>?_)
  refine aF (mD [(2,(pt (nb ρ1 0)))] [(g,(cL #[.slice a zs.length c,vn (pN zs (j+10))] 59)),(nb ρ1 0,(cL (kM (mkK zs (j+1) (((dN zs j 3:Nat):Int)==0)).s (mkK zs (j+1) (((dN zs j 3:Nat):Int)==0)).p (mkK zs (j+1) (((dN zs j 3:Nat):Int)==0)).c (mkK zs (j+1) (((dN zs j 3:Nat):Int)==0)).d (((mkK zs (j+1) (((dN zs j 3:Nat):Int)==0)).i:Nat):Int) (((mkK zs (j+1) (((dN zs j 3:Nat):Int)==0)).n:Nat):Int) (vs (nb ρ5 6) 1 (1+aZ ρ5 6)) (.bool (((dN zs (j+7) 2:Nat):Int)==0))) 51)),(nb ρ5 6,(cL ([vu (dN zs (j+9) 4)].toArray++Builtin.zeroCells (Value.cells (.int .u32 0)) (aZ ρ5 6)) 41))] ?_)
  exact mR (v:=(.agg (kM (mkK zs (j+1) (((dN zs j 3:Nat):Int)==0)).s (mkK zs (j+1) (((dN zs j 3:Nat):Int)==0)).p (mkK zs (j+1) (((dN zs j 3:Nat):Int)==0)).c (mkK zs (j+1) (((dN zs j 3:Nat):Int)==0)).d (((mkK zs (j+1) (((dN zs j 3:Nat):Int)==0)).i:Nat):Int) (((mkK zs (j+1) (((dN zs j 3:Nat):Int)==0)).n:Nat):Int) (vs (nb ρ5 6) 1 (1+aZ ρ5 6)) (.bool (((dN zs (j+7) 2:Nat):Int)==0))))) (ps:=[1,1,1,1,1,1,1,1,1,1,1,1,1,1,1,1,1,1,1,1,1,1,1,1,1,1,1,1,1,1,1,1,1,1,1,1,1,1,1,1,1,1,1,1,1]) (fun _ hS=>⟨some ⟨nb ρ5 6,0,none⟩,1+aZ ρ5 6,by rw [ptP_1 (ptn_1 hb1)];rfl,hS.below,by rw [(ptn_1 hb1)];exact hS.knows [1,0,0],by rw [ptP_1 (ptn_1 hb1)];exact Fi.of_av (zs:=[((dN zs (j+9) 4:Nat):Int)]) (hS.new1 rfl rfl (.tail _ (.head _))) (Av.fresh (z:=(.int .u32 0)) (m:=1) rfl (ys:=[vu (dN zs (j+9) 4)]) rfl (aZ ρ5 6)) (Nat.le_of_ble_eq_true rfl)⟩)
 rw [hb1]
 refine bF (aN (aN (aT (aA ?_))))
 refine sS Tryz.f19 2 [2] [1,1,0] (fun _=>[.agg (kM (mkK zs (j+1) (((dN zs j 3:Nat):Int)==0)).s (mkK zs (j+1) (((dN zs j 3:Nat):Int)==0)).p (mkK zs (j+1) (((dN zs j 3:Nat):Int)==0)).c (mkK zs (j+1) (((dN zs j 3:Nat):Int)==0)).d (((mkK zs (j+1) (((dN zs j 3:Nat):Int)==0)).i:Nat):Int) (((mkK zs (j+1) (((dN zs j 3:Nat):Int)==0)).n:Nat):Int) vz (.bool (((dN zs (j+7) 2:Nat):Int)==0))),undef]) (fun _=>[(1,(bD 1 (nb ρ1 0) (cL (kM (mkK zs (j+1) (((dN zs j 3:Nat):Int)==0)).s (mkK zs (j+1) (((dN zs j 3:Nat):Int)==0)).p (mkK zs (j+1) (((dN zs j 3:Nat):Int)==0)).c (mkK zs (j+1) (((dN zs j 3:Nat):Int)==0)).d (((mkK zs (j+1) (((dN zs j 3:Nat):Int)==0)).i:Nat):Int) (((mkK zs (j+1) (((dN zs j 3:Nat):Int)==0)).n:Nat):Int) vz (.bool (((dN zs (j+7) 2:Nat):Int)==0))) 51)))]) (jE [[2],[1]]) (fun _=>?_)
 refine aF (mD [(2,(pt (nb ρ1 0)))] [(g,(cL #[.slice a zs.length c,vn (pN zs (j+9))] 59)),(nb ρ1 0,(cL (kM (mkK zs (j+1) (((dN zs j 3:Nat):Int)==0)).s (mkK zs (j+1) (((dN zs j 3:Nat):Int)==0)).p (mkK zs (j+1) (((dN zs j 3:Nat):Int)==0)).c (mkK zs (j+1) (((dN zs j 3:Nat):Int)==0)).d (((mkK zs (j+1) (((dN zs j 3:Nat):Int)==0)).i:Nat):Int) (((mkK zs (j+1) (((dN zs j 3:Nat):Int)==0)).n:Nat):Int) vz (.bool (((dN zs (j+7) 2:Nat):Int)==0))) 51))] ?_)
 exact mR (v:=(.agg (kM (mkK zs (j+1) (((dN zs j 3:Nat):Int)==0)).s (mkK zs (j+1) (((dN zs j 3:Nat):Int)==0)).p (mkK zs (j+1) (((dN zs j 3:Nat):Int)==0)).c (mkK zs (j+1) (((dN zs j 3:Nat):Int)==0)).d (((mkK zs (j+1) (((dN zs j 3:Nat):Int)==0)).i:Nat):Int) (((mkK zs (j+1) (((dN zs j 3:Nat):Int)==0)).n:Nat):Int) vz (.bool (((dN zs (j+7) 2:Nat):Int)==0))))) (ps:=[1,1,1,1,1,1,1,1,1,1,1,1,1,1,1,1,1,1,1,1,1,1,1,1,1,1,1,1,1,1,1,1,1,1,1,1,1,1,1,1,1,1,1,1,1]) (fun _ hS=>⟨none,0,by rw [ptP_0 (ptn_0 hb1)];rfl,hS.below,by rw [(ptn_0 hb1)];exact hS.knows [1,0],by rw [ptP_0 (ptn_0 hb1)];exact Fi.nil⟩)
set_option maxHeartbeats 4000000 in
theorem mtermsw_any (g:Nat) (a:Option Addr) (c:Nat) (zs:List Int) (j:Nat) (hv:Nat) (hz:Z64 zs) (hhv:hv<M) (ehv:hs2 (dN zs (j+1) 5) (dN zs (j+1+1) 7)=hv) (w0:World) (hK:Knows [(g,(cL #[.slice a zs.length c,vn (pN zs j)] 59))] w0) (hP:dL (fun b=>b∈([(g,(cL #[.slice a zs.length c,vn (pN zs j)] 59))]:List (Nat × Obj)).map (·.1)) (fun w=>Is w .i64 a c zs∧True) w0):Calls Tryz.prog 6 #[pt g] w0 (fun ε w'=>∃ α κ τs j',ε=.returned (.slice α (List.length τs) κ)∧nN (fun b=>b∈([(g,(cL #[.slice a zs.length c,vn (pN zs j)] 59))]:List (Nat × Obj)).map (·.1)) w0 w'∧Knows [(g,(cL #[.slice a zs.length c,vn (pN zs j')] 59))] w'∧dL (fun b=>b<w0.heap.size) (fun w=>TmN w α κ τs) w'):=by
 refine Calls.of_okW (n:=68) (F:=(fun w=>Is w .i64 a c zs∧True)) [(g,(cL #[.slice a zs.length c,vn (pN zs j)] 59))] Tryz.func6 rfl rfl rfl (by simp) hK (by simp) hP ?_
 refine jJ Tryz.f6 1 [0,2] [vz] (jJ Tryz.f6 1 [0,2,3] [vz] (aB ?_))
 refine sS Tryz.f6 2 [0,2,3,5] [] (fun _=>[pt g,vn (dN zs j 6)]) (fun _=>[(1,(bD 0 g (cL #[.slice a zs.length c,vn (pN zs (j+1))] 59)))]) (cR [[]]<|cX (qW [0] (fun _ _ w hG hK=>next_any g a c zs j 6 (by decide) hz w hK (hG.pK [0] (fun _ hF=>⟨hF.1,trivial⟩))))<|cN) (fun _=>?_)
 refine aI (jJ Tryz.f6 2 [0,2,3,5,6] (let qa:Value:=.bool (((dN zs j 6:Nat):Int)==0);[qa,qa]) ?_)
 refine oC (((dN zs j 6:Nat):Int)==0) (fun hb1=>?_) (fun hb1=>?_)
 ·
  rw [hb1]
  refine rS Tryz.f6 8 [0,2,3] [] (fun ρ=>let qa:=vs (nb ρ 6) ([tN 3 (dN zs (j+1) 300)]).length (([tN 3 (dN zs (j+1) 300)]).length+aZ ρ 6);[vz,pt g,vn (dN zs (j+1) 300),vu (dN zs (j+1) 300),.agg (iC 3 0 ((dN zs (j+1) 300:Nat):Int) 0 vz),vs (nb ρ 5) 1 1,qa,qa]) (fun ρ=>[(2,(bD 0 g (cL #[.slice a zs.length c,vn (pN zs (j+2))] 59))),(5,(nw ρ 5 (cL (iC 3 0 ((dN zs (j+1) 300:Nat):Int) 0 vz) 46))),(6,(nw ρ 6 (cL ((pV ([tN 3 (dN zs (j+1) 300)])).toArray++Builtin.zeroCells (Value.cells rQ) (aZ ρ 6)) 46)))]) (cR [[],[]]<|cX (qW [0] (fun _ _ w hG hK=>next_any g a c zs (j+1) 300 (by decide) hz w hK (hG.pK [0] (fun _ hF=>⟨hF.1,trivial⟩))))<|cA (v:=fun ρ=>(.int .u32 (IntKind.u32.wrap ((dN zs (j+1) 300:Nat):Int)))) (fun _=>(vu (dN zs (j+1) 300))) (fun _=>jN (u32N (Nat.lt_of_lt_of_le (iG zs (j+1) (by decide)) (by decide))))<|cR [[],[]]<|cX (qN (fun _ ζ=>(vs (ζ.headD 0) ([tN 3 (dN zs (j+1) 300)]).length (([tN 3 (dN zs (j+1) 300)]).length+ζ.tail.headD 0))) (fun _ ζ=>(cL ((pV ([tN 3 (dN zs (j+1) 300)])).toArray++Builtin.zeroCells (Value.cells rQ) (ζ.tail.headD 0)) 46)) (fun ρ _ _ hG=>sK (ty:=24) (us:=[tN 3 (dN zs (j+1) 300)]) Tryz.underlying24 (dA (sz:=36) (b:=80) (z:=rQ) (by kernel_rfl) rfl) (nP (x:=(tN 3 (dN zs (j+1) 300))) Tryz.underlying24 (hG.kn (g:=nb ρ 5) (o:=(cL (iC 3 0 ((dN zs (j+1) 300:Nat):Int) 0 vz) 46)) 41)) (Nat.le_of_ble_eq_true rfl) (Nat.le_of_ble_eq_true rfl) (by decide)))<|jE [[]]) (fun ρ5=>?_)
  refine aJ (aA (aB ?_))
  rcases Bool.eq_false_or_eq_true (((dN zs (j+2) 4:Nat):Int)==0) with hb2 | hb2
  ·
   refine sS Tryz.f6 8 [0,2,3,49] [] (fun _=>let qa:=[tN 3 (dN zs (j+1) 300)];[pt g,vn (dN zs (j+2) 4),vT,vT,vs (nb ρ5 6) qa.length (qa.length+aZ ρ5 6),vi 1,vT,vT]) (fun _=>[(1,(bD 0 g (cL #[.slice a zs.length c,vn (pN zs (j+3))] 59)))]) (cR [[]]<|cX (qW [0] (fun _ _ w hG hK=>next_any g a c zs (j+2) 4 (by decide) hz w hK (hG.pK [0] (fun _ hF=>⟨hF.1,trivial⟩))))<|cA (fun _=>vT) (fun _=>congrArg Value.bool hb2)<|jE [[],[],[],[],[]]) (fun _=>?_)
   refine oY ?_
   refine iZ Tryz.f6 12 [0,2,3] [] (fun ρ=>let qa:=vs (nb ρ 10) (([tN 3 (dN zs (j+1) 300)])++([tM (1+dN zs (j+3) 2) zs (j+4) (oa ρ 4) (nb ρ 4) (j+4+(9+bI zs (j+4))) (oa ρ 6) (nb ρ 6) (nb ρ 7)])).length (aZ ρ 10);let qb:=[tN 3 (dN zs (j+1) 300)];[vs (nb ρ5 6) qb.length (qb.length+aZ ρ5 6),pt g,vn (1+dN zs (j+3) 2),pt g,.agg (kM (bU zs (j+4)).s (bU zs (j+4)).p (bU zs (j+4)).c (bU zs (j+4)).d (((bU zs (j+4)).i:Nat):Int) (((bU zs (j+4)).n:Nat):Int) (.slice (oa ρ 4) (nI (iT zs (j+4))).length (nb ρ 4)) (.bool (pX zs (j+4)))),pt g,.agg (kM (bU zs (j+4+(9+bI zs (j+4)))).s (bU zs (j+4+(9+bI zs (j+4)))).p (bU zs (j+4+(9+bI zs (j+4)))).c (bU zs (j+4+(9+bI zs (j+4)))).d (((bU zs (j+4+(9+bI zs (j+4)))).i:Nat):Int) (((bU zs (j+4+(9+bI zs (j+4)))).n:Nat):Int) (.slice (oa ρ 6) (nI (iT zs (j+4+(9+bI zs (j+4))))).length (nb ρ 6)) (.bool (pX zs (j+4+(9+bI zs (j+4)))))),vs (nb ρ 7) 2 2,.agg (iC 2 ((1+dN zs (j+3) 2:Nat):Int) 0 0 (vs (nb ρ 7) 2 2)),vs (nb ρ 9) 1 1,qa,qa]) (fun ρ=>[(2,(bD 0 g (cL #[.slice a zs.length c,vn (pN zs (j+4))] 59))),(4,(bD 0 g (cL #[.slice a zs.length c,vn (pN zs (j+4+(9+bI zs (j+4))))] 59))),(6,(bD 0 g (cL #[.slice a zs.length c,vn (pN zs (j+4+(9+bI zs (j+4))+(9+bI zs (j+4+(9+bI zs (j+4))))))] 59))),(7,(nw ρ 7 (cL ((kM (bU zs (j+4)).s (bU zs (j+4)).p (bU zs (j+4)).c (bU zs (j+4)).d (((bU zs (j+4)).i:Nat):Int) (((bU zs (j+4)).n:Nat):Int) (.slice (oa ρ 4) (nI (iT zs (j+4))).length (nb ρ 4)) (.bool (pX zs (j+4))))++(kM (bU zs (j+4+(9+bI zs (j+4)))).s (bU zs (j+4+(9+bI zs (j+4)))).p (bU zs (j+4+(9+bI zs (j+4)))).c (bU zs (j+4+(9+bI zs (j+4)))).d (((bU zs (j+4+(9+bI zs (j+4)))).i:Nat):Int) (((bU zs (j+4+(9+bI zs (j+4)))).n:Nat):Int) (.slice (oa ρ 6) (nI (iT zs (j+4+(9+bI zs (j+4))))).length (nb ρ 6)) (.bool (pX zs (j+4+(9+bI zs (j+4))))))) 51))),(9,(nw ρ 9 (cL (iC 2 ((1+dN zs (j+3) 2:Nat):Int) 0 0 (vs (nb ρ 7) 2 2)) 46))),(10,(bD 2 (nb ρ 10) (cL (oc ρ 10) 46)))]) (fun ρ=>[(4,fun w=>Fi w0 w .u32 (oa ρ 4) (nb ρ 4) (nI (iT zs (j+4)))),(6,fun w=>Fi w0 w .u32 (oa ρ 6) (nb ρ 6) (nI (iT zs (j+4+(9+bI zs (j+4)))))),(10,fun w=>At (oc ρ 10) (([tN 3 (dN zs (j+1) 300)])++([tM (1+dN zs (j+3) 2) zs (j+4) (oa ρ 4) (nb ρ 4) (j+4+(9+bI zs (j+4))) (oa ρ 6) (nb ρ 6) (nb ρ 7)])) (aZ ρ 10))]) (fun ρ=>(fun w=>Is w .i64 a c zs∧Fi w0 w .u32 (oa ρ 4) (nb ρ 4) (nI (iT zs (j+4)))∧Fi w0 w .u32 (oa ρ 6) (nb ρ 6) (nI (iT zs (j+4+(9+bI zs (j+4)))))∧True)) (fun ρ=>At (oc ρ 10) (([tN 3 (dN zs (j+1) 300)])++([tM (1+dN zs (j+3) 2) zs (j+4) (oa ρ 4) (nb ρ 4) (j+4+(9+bI zs (j+4))) (oa ρ 6) (nb ρ 6) (nb ρ 7)])) (aZ ρ 10)) (fun _ _ hF hf=>⟨⟨hF.1,hf 4,hf 6,trivial⟩,hf 10⟩) (cR [[],[]]<|cX (qW [0] (fun _ _ w hG hK=>range_any g a c zs (j+3) 1 2 (by decide) hz w hK (hG.pK [0] (fun _ hF=>⟨hF.1,trivial⟩))))<|cR [[]]<|cX (qWJ [0] (fun _ _ w hG hK=>fU g a c zs (j+4) hz w hK (hG.pK [0] (fun _ hF=>⟨hF.1,trivial⟩))))<|cR [[]]<|cX (qWJ [0] (fun _ _ w hG hK=>fU g a c zs (j+4+(9+bI zs (j+4))) hz w hK (hG.pK [0] (fun _ hF=>⟨hF.1,trivial⟩))))<|cR [[],[],[]]<|cX (qM 2 (fun ρ _ _ hG hg=>o5 (ty:=24) (g:=nb ρ5 6) (ts:=[tN 3 (dN zs (j+1) 300)]) (us:=[tM (1+dN zs (j+3) 2) zs (j+4) (oa ρ 4) (nb ρ 4) (j+4+(9+bI zs (j+4))) (oa ρ 6) (nb ρ 6) (nb ρ 7)]) Tryz.underlying24 (dA (sz:=36) (b:=80) (z:=rQ) (by kernel_rfl) rfl) (At.fresh (z:=rQ) rfl ([tN 3 (dN zs (j+1) 300)]) (aZ ρ5 6)) (nP (x:=(tM (1+dN zs (j+3) 2) zs (j+4) (oa ρ 4) (nb ρ 4) (j+4+(9+bI zs (j+4))) (oa ρ 6) (nb ρ 6) (nb ρ 7))) Tryz.underlying24 (hG.kn (g:=nb ρ 9) (o:=(cL (iC 2 ((1+dN zs (j+3) 2:Nat):Int) 0 0 (vs (nb ρ 7) 2 2)) 46)) 75)) (Nat.le_of_ble_eq_true rfl) (by decide) hg))<|jE [[]]) (fun ρ7 ap7_10=>?_)
   refine aF (aC (mD [(0,(pt g)),(2,(vs (nb ρ7 10) (([tN 3 (dN zs (j+1) 300)])++([tM (1+dN zs (j+3) 2) zs (j+4) (oa ρ7 4) (nb ρ7 4) (j+4+(9+bI zs (j+4))) (oa ρ7 6) (nb ρ7 6) (nb ρ7 7)])).length (aZ ρ7 10))),(3,(vs (nb ρ5 6) ([tN 3 (dN zs (j+1) 300)]).length (([tN 3 (dN zs (j+1) 300)]).length+aZ ρ5 6)))] [(g,(cL #[.slice a zs.length c,vn (pN zs (j+4+(9+bI zs (j+4))+(9+bI zs (j+4+(9+bI zs (j+4))))))] 59)),(nb ρ5 5,(cL (iC 3 0 ((dN zs (j+1) 300:Nat):Int) 0 vz) 46)),(nb ρ7 10,(cL (oc ρ7 10) 46)),(nb ρ7 7,(cL ((kM (bU zs (j+4)).s (bU zs (j+4)).p (bU zs (j+4)).c (bU zs (j+4)).d (((bU zs (j+4)).i:Nat):Int) (((bU zs (j+4)).n:Nat):Int) (.slice (oa ρ7 4) (nI (iT zs (j+4))).length (nb ρ7 4)) (.bool (pX zs (j+4))))++(kM (bU zs (j+4+(9+bI zs (j+4)))).s (bU zs (j+4+(9+bI zs (j+4)))).p (bU zs (j+4+(9+bI zs (j+4)))).c (bU zs (j+4+(9+bI zs (j+4)))).d (((bU zs (j+4+(9+bI zs (j+4)))).i:Nat):Int) (((bU zs (j+4+(9+bI zs (j+4)))).n:Nat):Int) (.slice (oa ρ7 6) (nI (iT zs (j+4+(9+bI zs (j+4))))).length (nb ρ7 6)) (.bool (pX zs (j+4+(9+bI zs (j+4))))))) 51)),(nb ρ7 9,(cL (iC 2 ((1+dN zs (j+3) 2:Nat):Int) 0 0 (vs (nb ρ7 7) 2 2)) 46))] ?_))
   exact mR (v:=(vs (nb ρ7 10) (([tN 3 (dN zs (j+1) 300)])++([tM (1+dN zs (j+3) 2) zs (j+4) (oa ρ7 4) (nb ρ7 4) (j+4+(9+bI zs (j+4))) (oa ρ7 6) (nb ρ7 6) (nb ρ7 7)])).length (aZ ρ7 10))) (fun _ hS=>⟨_,_,([tN 3 (dN zs (j+1) 300)])++([tM (1+dN zs (j+3) 2) zs (j+4) (oa ρ7 4) (nb ρ7 4) (j+4+(9+bI zs (j+4))) (oa ρ7 6) (nb ρ7 6) (nb ρ7 7)]),j+4+(9+bI zs (j+4))+(9+bI zs (j+4+(9+bI zs (j+4)))),rfl,hS.below,hS.knows [1,0,0,0,0],lX (fun b hb=>hb) (hS.new1 rfl rfl (.tail _ (.head _))) ap7_10 (mX (kF ⟨⟨dS (z:=3) (by decide),dS (z:=0) (by decide),Nat.lt_of_lt_of_le (iG zs (j+1) (by decide)) (by decide),iL⟩,dB (fun _=>oG.nil),vP rfl (show (3:Int)≠2 by decide)⟩) (kF ⟨⟨dS (z:=2) (by decide),rng_nat (by have:=iG zs (j+3) (by decide:0<2);omega),(show (0:Nat)<4294967296 by decide),iL⟩,kf2 (fun b hb=>hb) (hS.new1 rfl rfl (.tail _ (.tail _ (.head _)))) (hS.facts.now.2.1.pers (fun b hb=>hb)) (lN zs (j+4) _ _) (hS.facts.now.2.2.1.pers (fun b hb=>hb)) (lN zs (j+4+(9+bI zs (j+4))) _ _),soft_2 rfl (gX zs (j+4) _ _) (gX zs (j+4+(9+bI zs (j+4))) _ _)⟩)) (Nat.le_of_ble_eq_true rfl) (Nat.le_of_ble_eq_true rfl)⟩)
  refine sS Tryz.f6 8 [0,2,3,49] [] (fun _=>[pt g,vn (dN zs (j+2) 4),vF,vF,undef,undef,undef,vF]) (fun _=>[(1,(bD 0 g (cL #[.slice a zs.length c,vn (pN zs (j+3))] 59)))]) (cR [[]]<|cX (qW [0] (fun _ _ w hG hK=>next_any g a c zs (j+2) 4 (by decide) hz w hK (hG.pK [0] (fun _ hF=>⟨hF.1,trivial⟩))))<|cA (fun _=>vF) (fun _=>congrArg Value.bool hb2)<|jE [[],[],[],[],[]]) (fun _=>?_)
  refine oN ?_
  refine aG (aA ?_)
  refine iZ Tryz.f6 8 [2] [] (fun ρ=>let qa:=vs (nb ρ 6) (([tN 3 (dN zs (j+1) 300)])++([tK zs (j+3) (oa ρ 2) (nb ρ 2) (nb ρ 3)])).length (aZ ρ 6);let qb:=[tN 3 (dN zs (j+1) 300)];[vs (nb ρ5 6) qb.length (qb.length+aZ ρ5 6),pt g,.agg (kM (bU zs (j+3)).s (bU zs (j+3)).p (bU zs (j+3)).c (bU zs (j+3)).d (((bU zs (j+3)).i:Nat):Int) (((bU zs (j+3)).n:Nat):Int) (.slice (oa ρ 2) (nI (iT zs (j+3))).length (nb ρ 2)) (.bool (pX zs (j+3)))),vs (nb ρ 3) 1 1,.agg (iC 1 0 0 0 (vs (nb ρ 3) 1 1)),vs (nb ρ 5) 1 1,qa,qa]) (fun ρ=>[(2,(bD 0 g (cL #[.slice a zs.length c,vn (pN zs (j+3+(9+bI zs (j+3))))] 59))),(3,(nw ρ 3 (cL (kM (bU zs (j+3)).s (bU zs (j+3)).p (bU zs (j+3)).c (bU zs (j+3)).d (((bU zs (j+3)).i:Nat):Int) (((bU zs (j+3)).n:Nat):Int) (.slice (oa ρ 2) (nI (iT zs (j+3))).length (nb ρ 2)) (.bool (pX zs (j+3)))) 51))),(5,(nw ρ 5 (cL (iC 1 0 0 0 (vs (nb ρ 3) 1 1)) 46))),(6,(bD 2 (nb ρ 6) (cL (oc ρ 6) 46)))]) (fun ρ=>[(2,fun w=>Fi w0 w .u32 (oa ρ 2) (nb ρ 2) (nI (iT zs (j+3)))),(6,fun w=>At (oc ρ 6) (([tN 3 (dN zs (j+1) 300)])++([tK zs (j+3) (oa ρ 2) (nb ρ 2) (nb ρ 3)])) (aZ ρ 6))]) (fun ρ=>(fun w=>Is w .i64 a c zs∧Fi w0 w .u32 (oa ρ 2) (nb ρ 2) (nI (iT zs (j+3)))∧True)) (fun ρ=>At (oc ρ 6) (([tN 3 (dN zs (j+1) 300)])++([tK zs (j+3) (oa ρ 2) (nb ρ 2) (nb ρ 3)])) (aZ ρ 6)) (fun _ _ hF hf=>⟨⟨hF.1,hf 2,trivial⟩,hf 6⟩) (cR [[],[]]<|cX (qWJ [0] (fun _ _ w hG hK=>fU g a c zs (j+3) hz w hK (hG.pK [0] (fun _ hF=>⟨hF.1,trivial⟩))))<|cR [[],[],[]]<|cX (qM 2 (fun ρ _ _ hG hg=>o5 (ty:=24) (g:=nb ρ5 6) (ts:=[tN 3 (dN zs (j+1) 300)]) (us:=[tK zs (j+3) (oa ρ 2) (nb ρ 2) (nb ρ 3)]) Tryz.underlying24 (dA (sz:=36) (b:=80) (z:=rQ) (by kernel_rfl) rfl) (At.fresh (z:=rQ) rfl ([tN 3 (dN zs (j+1) 300)]) (aZ ρ5 6)) (nP (x:=(tK zs (j+3) (oa ρ 2) (nb ρ 2) (nb ρ 3))) Tryz.underlying24 (hG.kn (g:=nb ρ 5) (o:=(cL (iC 1 0 0 0 (vs (nb ρ 3) 1 1)) 46)) 43)) (Nat.le_of_ble_eq_true rfl) (by decide) hg))<|jE [[]]) (fun ρ9 ap9_6=>?_)
  refine aF (mD [(2,(vs (nb ρ9 6) (([tN 3 (dN zs (j+1) 300)])++([tK zs (j+3) (oa ρ9 2) (nb ρ9 2) (nb ρ9 3)])).length (aZ ρ9 6)))] [(g,(cL #[.slice a zs.length c,vn (pN zs (j+3+(9+bI zs (j+3))))] 59)),(nb ρ5 5,(cL (iC 3 0 ((dN zs (j+1) 300:Nat):Int) 0 vz) 46)),(nb ρ9 6,(cL (oc ρ9 6) 46)),(nb ρ9 3,(cL (kM (bU zs (j+3)).s (bU zs (j+3)).p (bU zs (j+3)).c (bU zs (j+3)).d (((bU zs (j+3)).i:Nat):Int) (((bU zs (j+3)).n:Nat):Int) (.slice (oa ρ9 2) (nI (iT zs (j+3))).length (nb ρ9 2)) (.bool (pX zs (j+3)))) 51)),(nb ρ9 5,(cL (iC 1 0 0 0 (vs (nb ρ9 3) 1 1)) 46))] ?_)
  exact mR (v:=(vs (nb ρ9 6) (([tN 3 (dN zs (j+1) 300)])++([tK zs (j+3) (oa ρ9 2) (nb ρ9 2) (nb ρ9 3)])).length (aZ ρ9 6))) (fun _ hS=>⟨_,_,([tN 3 (dN zs (j+1) 300)])++([tK zs (j+3) (oa ρ9 2) (nb ρ9 2) (nb ρ9 3)]),j+3+(9+bI zs (j+3)),rfl,hS.below,hS.knows [1,0,0,0,0],lX (fun b hb=>hb) (hS.new1 rfl rfl (.tail _ (.head _))) ap9_6 (mX (kF ⟨⟨dS (z:=3) (by decide),dS (z:=0) (by decide),Nat.lt_of_lt_of_le (iG zs (j+1) (by decide)) (by decide),iL⟩,dB (fun _=>oG.nil),vP rfl (show (3:Int)≠2 by decide)⟩) (kF ⟨⟨dS (z:=1) (by decide),dS (z:=0) (by decide),(show (0:Nat)<4294967296 by decide),iL⟩,kf1 (fun b hb=>hb) (hS.new1 rfl rfl (.tail _ (.tail _ (.head _)))) (hS.facts.now.2.1.pers (fun b hb=>hb)) (lN zs (j+3) _ _),wO rfl (show (1:Int)≠2 by decide) (gX zs (j+3) _ _)⟩)) (Nat.le_of_ble_eq_true rfl) (Nat.le_of_ble_eq_true rfl)⟩)
 rw [hb1]
 refine jJ Tryz.f6 2 [0,2,3,5,15] (let qa:Value:=.bool (((dN zs j 6:Nat):Int)==1);[qa,qa]) ?_
 refine oC (((dN zs j 6:Nat):Int)==1) (fun hb3=>?_) (fun hb3=>?_)
 ·
  rw [hb3]
  refine rS Tryz.f6 8 [0,2,3] [] (fun ρ=>let qa:=vs (nb ρ 6) ([tN 4 (dN zs (j+1) 300)]).length (([tN 4 (dN zs (j+1) 300)]).length+aZ ρ 6);[vz,pt g,vn (dN zs (j+1) 300),vu (dN zs (j+1) 300),.agg (iC 4 0 ((dN zs (j+1) 300:Nat):Int) 0 vz),vs (nb ρ 5) 1 1,qa,qa]) (fun ρ=>[(2,(bD 0 g (cL #[.slice a zs.length c,vn (pN zs (j+2))] 59))),(5,(nw ρ 5 (cL (iC 4 0 ((dN zs (j+1) 300:Nat):Int) 0 vz) 46))),(6,(nw ρ 6 (cL ((pV ([tN 4 (dN zs (j+1) 300)])).toArray++Builtin.zeroCells (Value.cells rQ) (aZ ρ 6)) 46)))]) (cR [[],[]]<|cX (qW [0] (fun _ _ w hG hK=>next_any g a c zs (j+1) 300 (by decide) hz w hK (hG.pK [0] (fun _ hF=>⟨hF.1,trivial⟩))))<|cA (v:=fun ρ=>(.int .u32 (IntKind.u32.wrap ((dN zs (j+1) 300:Nat):Int)))) (fun _=>(vu (dN zs (j+1) 300))) (fun _=>jN (u32N (Nat.lt_of_lt_of_le (iG zs (j+1) (by decide)) (by decide))))<|cR [[],[]]<|cX (qN (fun _ ζ=>(vs (ζ.headD 0) ([tN 4 (dN zs (j+1) 300)]).length (([tN 4 (dN zs (j+1) 300)]).length+ζ.tail.headD 0))) (fun _ ζ=>(cL ((pV ([tN 4 (dN zs (j+1) 300)])).toArray++Builtin.zeroCells (Value.cells rQ) (ζ.tail.headD 0)) 46)) (fun ρ _ _ hG=>sK (ty:=24) (us:=[tN 4 (dN zs (j+1) 300)]) Tryz.underlying24 (dA (sz:=36) (b:=80) (z:=rQ) (by kernel_rfl) rfl) (nP (x:=(tN 4 (dN zs (j+1) 300))) Tryz.underlying24 (hG.kn (g:=nb ρ 5) (o:=(cL (iC 4 0 ((dN zs (j+1) 300:Nat):Int) 0 vz) 46)) 41)) (Nat.le_of_ble_eq_true rfl) (Nat.le_of_ble_eq_true rfl) (by decide)))<|jE [[]]) (fun ρ11=>?_)
  refine aJ (aA (aB ?_))
  rcases Bool.eq_false_or_eq_true (((dN zs (j+2) 4:Nat):Int)==0) with hb4 | hb4
  ·
   refine sS Tryz.f6 8 [0,2,3,49] [] (fun _=>let qa:=[tN 4 (dN zs (j+1) 300)];[pt g,vn (dN zs (j+2) 4),vT,vT,vs (nb ρ11 6) qa.length (qa.length+aZ ρ11 6),vi 1,vT,vT]) (fun _=>[(1,(bD 0 g (cL #[.slice a zs.length c,vn (pN zs (j+3))] 59)))]) (cR [[]]<|cX (qW [0] (fun _ _ w hG hK=>next_any g a c zs (j+2) 4 (by decide) hz w hK (hG.pK [0] (fun _ hF=>⟨hF.1,trivial⟩))))<|cA (fun _=>vT) (fun _=>congrArg Value.bool hb4)<|jE [[],[],[],[],[]]) (fun _=>?_)
   refine lK [(0,(pt g)),(2,vz),(3,(vs (nb ρ11 6) ([tN 4 (dN zs (j+1) 300)]).length (([tN 4 (dN zs (j+1) 300)]).length+aZ ρ11 6))),(49,vT)] [(g,(cL #[.slice a zs.length c,vn (pN zs (j+3))] 59)),(nb ρ11 5,(cL (iC 4 0 ((dN zs (j+1) 300:Nat):Int) 0 vz) 46)),(nb ρ11 6,(cL ((pV ([tN 4 (dN zs (j+1) 300)])).toArray++Builtin.zeroCells (Value.cells rQ) (aZ ρ11 6)) 46))] ?_
   refine oY ?_
   refine iZ Tryz.f6 12 [0,2,3] [] (fun ρ=>let qa:=vs (nb ρ 10) (([tN 4 (dN zs (j+1) 300)])++([tM (1+dN zs (j+3) 2) zs (j+4) (oa ρ 4) (nb ρ 4) (j+4+(9+bI zs (j+4))) (oa ρ 6) (nb ρ 6) (nb ρ 7)])).length (aZ ρ 10);let qb:=[tN 4 (dN zs (j+1) 300)];[vs (nb ρ11 6) qb.length (qb.length+aZ ρ11 6),pt g,vn (1+dN zs (j+3) 2),pt g,.agg (kM (bU zs (j+4)).s (bU zs (j+4)).p (bU zs (j+4)).c (bU zs (j+4)).d (((bU zs (j+4)).i:Nat):Int) (((bU zs (j+4)).n:Nat):Int) (.slice (oa ρ 4) (nI (iT zs (j+4))).length (nb ρ 4)) (.bool (pX zs (j+4)))),pt g,.agg (kM (bU zs (j+4+(9+bI zs (j+4)))).s (bU zs (j+4+(9+bI zs (j+4)))).p (bU zs (j+4+(9+bI zs (j+4)))).c (bU zs (j+4+(9+bI zs (j+4)))).d (((bU zs (j+4+(9+bI zs (j+4)))).i:Nat):Int) (((bU zs (j+4+(9+bI zs (j+4)))).n:Nat):Int) (.slice (oa ρ 6) (nI (iT zs (j+4+(9+bI zs (j+4))))).length (nb ρ 6)) (.bool (pX zs (j+4+(9+bI zs (j+4)))))),vs (nb ρ 7) 2 2,.agg (iC 2 ((1+dN zs (j+3) 2:Nat):Int) 0 0 (vs (nb ρ 7) 2 2)),vs (nb ρ 9) 1 1,qa,qa]) (fun ρ=>[(2,(bD 0 g (cL #[.slice a zs.length c,vn (pN zs (j+4))] 59))),(4,(bD 0 g (cL #[.slice a zs.length c,vn (pN zs (j+4+(9+bI zs (j+4))))] 59))),(6,(bD 0 g (cL #[.slice a zs.length c,vn (pN zs (j+4+(9+bI zs (j+4))+(9+bI zs (j+4+(9+bI zs (j+4))))))] 59))),(7,(nw ρ 7 (cL ((kM (bU zs (j+4)).s (bU zs (j+4)).p (bU zs (j+4)).c (bU zs (j+4)).d (((bU zs (j+4)).i:Nat):Int) (((bU zs (j+4)).n:Nat):Int) (.slice (oa ρ 4) (nI (iT zs (j+4))).length (nb ρ 4)) (.bool (pX zs (j+4))))++(kM (bU zs (j+4+(9+bI zs (j+4)))).s (bU zs (j+4+(9+bI zs (j+4)))).p (bU zs (j+4+(9+bI zs (j+4)))).c (bU zs (j+4+(9+bI zs (j+4)))).d (((bU zs (j+4+(9+bI zs (j+4)))).i:Nat):Int) (((bU zs (j+4+(9+bI zs (j+4)))).n:Nat):Int) (.slice (oa ρ 6) (nI (iT zs (j+4+(9+bI zs (j+4))))).length (nb ρ 6)) (.bool (pX zs (j+4+(9+bI zs (j+4))))))) 51))),(9,(nw ρ 9 (cL (iC 2 ((1+dN zs (j+3) 2:Nat):Int) 0 0 (vs (nb ρ 7) 2 2)) 46))),(10,(bD 2 (nb ρ 10) (cL (oc ρ 10) 46)))]) (fun ρ=>[(4,fun w=>Fi w0 w .u32 (oa ρ 4) (nb ρ 4) (nI (iT zs (j+4)))),(6,fun w=>Fi w0 w .u32 (oa ρ 6) (nb ρ 6) (nI (iT zs (j+4+(9+bI zs (j+4)))))),(10,fun w=>At (oc ρ 10) (([tN 4 (dN zs (j+1) 300)])++([tM (1+dN zs (j+3) 2) zs (j+4) (oa ρ 4) (nb ρ 4) (j+4+(9+bI zs (j+4))) (oa ρ 6) (nb ρ 6) (nb ρ 7)])) (aZ ρ 10))]) (fun ρ=>(fun w=>Is w .i64 a c zs∧Fi w0 w .u32 (oa ρ 4) (nb ρ 4) (nI (iT zs (j+4)))∧Fi w0 w .u32 (oa ρ 6) (nb ρ 6) (nI (iT zs (j+4+(9+bI zs (j+4)))))∧True)) (fun ρ=>At (oc ρ 10) (([tN 4 (dN zs (j+1) 300)])++([tM (1+dN zs (j+3) 2) zs (j+4) (oa ρ 4) (nb ρ 4) (j+4+(9+bI zs (j+4))) (oa ρ 6) (nb ρ 6) (nb ρ 7)])) (aZ ρ 10)) (fun _ _ hF hf=>⟨⟨hF.1,hf 4,hf 6,trivial⟩,hf 10⟩) (cR [[],[]]<|cX (qW [0] (fun _ _ w hG hK=>range_any g a c zs (j+3) 1 2 (by decide) hz w hK (hG.pK [0] (fun _ hF=>⟨hF.1,trivial⟩))))<|cR [[]]<|cX (qWJ [0] (fun _ _ w hG hK=>fU g a c zs (j+4) hz w hK (hG.pK [0] (fun _ hF=>⟨hF.1,trivial⟩))))<|cR [[]]<|cX (qWJ [0] (fun _ _ w hG hK=>fU g a c zs (j+4+(9+bI zs (j+4))) hz w hK (hG.pK [0] (fun _ hF=>⟨hF.1,trivial⟩))))<|cR [[],[],[]]<|cX (qM 2 (fun ρ _ _ hG hg=>o5 (ty:=24) (g:=nb ρ11 6) (ts:=[tN 4 (dN zs (j+1) 300)]) (us:=[tM (1+dN zs (j+3) 2) zs (j+4) (oa ρ 4) (nb ρ 4) (j+4+(9+bI zs (j+4))) (oa ρ 6) (nb ρ 6) (nb ρ 7)]) Tryz.underlying24 (dA (sz:=36) (b:=80) (z:=rQ) (by kernel_rfl) rfl) (At.fresh (z:=rQ) rfl ([tN 4 (dN zs (j+1) 300)]) (aZ ρ11 6)) (nP (x:=(tM (1+dN zs (j+3) 2) zs (j+4) (oa ρ 4) (nb ρ 4) (j+4+(9+bI zs (j+4))) (oa ρ 6) (nb ρ 6) (nb ρ 7))) Tryz.underlying24 (hG.kn (g:=nb ρ 9) (o:=(cL (iC 2 ((1+dN zs (j+3) 2:Nat):Int) 0 0 (vs (nb ρ 7) 2 2)) 46)) 75)) (Nat.le_of_ble_eq_true rfl) (by decide) hg))<|jE [[]]) (fun ρ13 ap13_10=>?_)
   refine aF (aC (mD [(0,(pt g)),(2,(vs (nb ρ13 10) (([tN 4 (dN zs (j+1) 300)])++([tM (1+dN zs (j+3) 2) zs (j+4) (oa ρ13 4) (nb ρ13 4) (j+4+(9+bI zs (j+4))) (oa ρ13 6) (nb ρ13 6) (nb ρ13 7)])).length (aZ ρ13 10))),(3,(vs (nb ρ11 6) ([tN 4 (dN zs (j+1) 300)]).length (([tN 4 (dN zs (j+1) 300)]).length+aZ ρ11 6)))] [(g,(cL #[.slice a zs.length c,vn (pN zs (j+4+(9+bI zs (j+4))+(9+bI zs (j+4+(9+bI zs (j+4))))))] 59)),(nb ρ11 5,(cL (iC 4 0 ((dN zs (j+1) 300:Nat):Int) 0 vz) 46)),(nb ρ13 10,(cL (oc ρ13 10) 46)),(nb ρ13 7,(cL ((kM (bU zs (j+4)).s (bU zs (j+4)).p (bU zs (j+4)).c (bU zs (j+4)).d (((bU zs (j+4)).i:Nat):Int) (((bU zs (j+4)).n:Nat):Int) (.slice (oa ρ13 4) (nI (iT zs (j+4))).length (nb ρ13 4)) (.bool (pX zs (j+4))))++(kM (bU zs (j+4+(9+bI zs (j+4)))).s (bU zs (j+4+(9+bI zs (j+4)))).p (bU zs (j+4+(9+bI zs (j+4)))).c (bU zs (j+4+(9+bI zs (j+4)))).d (((bU zs (j+4+(9+bI zs (j+4)))).i:Nat):Int) (((bU zs (j+4+(9+bI zs (j+4)))).n:Nat):Int) (.slice (oa ρ13 6) (nI (iT zs (j+4+(9+bI zs (j+4))))).length (nb ρ13 6)) (.bool (pX zs (j+4+(9+bI zs (j+4))))))) 51)),(nb ρ13 9,(cL (iC 2 ((1+dN zs (j+3) 2:Nat):Int) 0 0 (vs (nb ρ13 7) 2 2)) 46))] ?_))
   exact mR (v:=(vs (nb ρ13 10) (([tN 4 (dN zs (j+1) 300)])++([tM (1+dN zs (j+3) 2) zs (j+4) (oa ρ13 4) (nb ρ13 4) (j+4+(9+bI zs (j+4))) (oa ρ13 6) (nb ρ13 6) (nb ρ13 7)])).length (aZ ρ13 10))) (fun _ hS=>⟨_,_,([tN 4 (dN zs (j+1) 300)])++([tM (1+dN zs (j+3) 2) zs (j+4) (oa ρ13 4) (nb ρ13 4) (j+4+(9+bI zs (j+4))) (oa ρ13 6) (nb ρ13 6) (nb ρ13 7)]),j+4+(9+bI zs (j+4))+(9+bI zs (j+4+(9+bI zs (j+4)))),rfl,hS.below,hS.knows [1,0,0,0,0],lX (fun b hb=>hb) (hS.new1 rfl rfl (.tail _ (.head _))) ap13_10 (mX (kF ⟨⟨dS (z:=4) (by decide),dS (z:=0) (by decide),Nat.lt_of_lt_of_le (iG zs (j+1) (by decide)) (by decide),iL⟩,dB (fun _=>oG.nil),vP rfl (show (4:Int)≠2 by decide)⟩) (kF ⟨⟨dS (z:=2) (by decide),rng_nat (by have:=iG zs (j+3) (by decide:0<2);omega),(show (0:Nat)<4294967296 by decide),iL⟩,kf2 (fun b hb=>hb) (hS.new1 rfl rfl (.tail _ (.tail _ (.head _)))) (hS.facts.now.2.1.pers (fun b hb=>hb)) (lN zs (j+4) _ _) (hS.facts.now.2.2.1.pers (fun b hb=>hb)) (lN zs (j+4+(9+bI zs (j+4))) _ _),soft_2 rfl (gX zs (j+4) _ _) (gX zs (j+4+(9+bI zs (j+4))) _ _)⟩)) (Nat.le_of_ble_eq_true rfl) (Nat.le_of_ble_eq_true rfl)⟩)
  refine sS Tryz.f6 8 [0,2,3,49] [] (fun _=>[pt g,vn (dN zs (j+2) 4),vF,vF,undef,undef,undef,vF]) (fun _=>[(1,(bD 0 g (cL #[.slice a zs.length c,vn (pN zs (j+3))] 59)))]) (cR [[]]<|cX (qW [0] (fun _ _ w hG hK=>next_any g a c zs (j+2) 4 (by decide) hz w hK (hG.pK [0] (fun _ hF=>⟨hF.1,trivial⟩))))<|cA (fun _=>vF) (fun _=>congrArg Value.bool hb4)<|jE [[],[],[],[],[]]) (fun _=>?_)
  refine lK [(0,(pt g)),(2,vz),(3,(vs (nb ρ11 6) ([tN 4 (dN zs (j+1) 300)]).length (([tN 4 (dN zs (j+1) 300)]).length+aZ ρ11 6))),(49,vF)] [(g,(cL #[.slice a zs.length c,vn (pN zs (j+3))] 59)),(nb ρ11 5,(cL (iC 4 0 ((dN zs (j+1) 300:Nat):Int) 0 vz) 46)),(nb ρ11 6,(cL ((pV ([tN 4 (dN zs (j+1) 300)])).toArray++Builtin.zeroCells (Value.cells rQ) (aZ ρ11 6)) 46))] ?_
  refine oN ?_
  refine aG (aA ?_)
  refine iZ Tryz.f6 8 [2] [] (fun ρ=>let qa:=vs (nb ρ 6) (([tN 4 (dN zs (j+1) 300)])++([tK zs (j+3) (oa ρ 2) (nb ρ 2) (nb ρ 3)])).length (aZ ρ 6);let qb:=[tN 4 (dN zs (j+1) 300)];[vs (nb ρ11 6) qb.length (qb.length+aZ ρ11 6),pt g,.agg (kM (bU zs (j+3)).s (bU zs (j+3)).p (bU zs (j+3)).c (bU zs (j+3)).d (((bU zs (j+3)).i:Nat):Int) (((bU zs (j+3)).n:Nat):Int) (.slice (oa ρ 2) (nI (iT zs (j+3))).length (nb ρ 2)) (.bool (pX zs (j+3)))),vs (nb ρ 3) 1 1,.agg (iC 1 0 0 0 (vs (nb ρ 3) 1 1)),vs (nb ρ 5) 1 1,qa,qa]) (fun ρ=>[(2,(bD 0 g (cL #[.slice a zs.length c,vn (pN zs (j+3+(9+bI zs (j+3))))] 59))),(3,(nw ρ 3 (cL (kM (bU zs (j+3)).s (bU zs (j+3)).p (bU zs (j+3)).c (bU zs (j+3)).d (((bU zs (j+3)).i:Nat):Int) (((bU zs (j+3)).n:Nat):Int) (.slice (oa ρ 2) (nI (iT zs (j+3))).length (nb ρ 2)) (.bool (pX zs (j+3)))) 51))),(5,(nw ρ 5 (cL (iC 1 0 0 0 (vs (nb ρ 3) 1 1)) 46))),(6,(bD 2 (nb ρ 6) (cL (oc ρ 6) 46)))]) (fun ρ=>[(2,fun w=>Fi w0 w .u32 (oa ρ 2) (nb ρ 2) (nI (iT zs (j+3)))),(6,fun w=>At (oc ρ 6) (([tN 4 (dN zs (j+1) 300)])++([tK zs (j+3) (oa ρ 2) (nb ρ 2) (nb ρ 3)])) (aZ ρ 6))]) (fun ρ=>(fun w=>Is w .i64 a c zs∧Fi w0 w .u32 (oa ρ 2) (nb ρ 2) (nI (iT zs (j+3)))∧True)) (fun ρ=>At (oc ρ 6) (([tN 4 (dN zs (j+1) 300)])++([tK zs (j+3) (oa ρ 2) (nb ρ 2) (nb ρ 3)])) (aZ ρ 6)) (fun _ _ hF hf=>⟨⟨hF.1,hf 2,trivial⟩,hf 6⟩) (cR [[],[]]<|cX (qWJ [0] (fun _ _ w hG hK=>fU g a c zs (j+3) hz w hK (hG.pK [0] (fun _ hF=>⟨hF.1,trivial⟩))))<|cR [[],[],[]]<|cX (qM 2 (fun ρ _ _ hG hg=>o5 (ty:=24) (g:=nb ρ11 6) (ts:=[tN 4 (dN zs (j+1) 300)]) (us:=[tK zs (j+3) (oa ρ 2) (nb ρ 2) (nb ρ 3)]) Tryz.underlying24 (dA (sz:=36) (b:=80) (z:=rQ) (by kernel_rfl) rfl) (At.fresh (z:=rQ) rfl ([tN 4 (dN zs (j+1) 300)]) (aZ ρ11 6)) (nP (x:=(tK zs (j+3) (oa ρ 2) (nb ρ 2) (nb ρ 3))) Tryz.underlying24 (hG.kn (g:=nb ρ 5) (o:=(cL (iC 1 0 0 0 (vs (nb ρ 3) 1 1)) 46)) 43)) (Nat.le_of_ble_eq_true rfl) (by decide) hg))<|jE [[]]) (fun ρ15 ap15_6=>?_)
  refine aF (mD [(2,(vs (nb ρ15 6) (([tN 4 (dN zs (j+1) 300)])++([tK zs (j+3) (oa ρ15 2) (nb ρ15 2) (nb ρ15 3)])).length (aZ ρ15 6)))] [(g,(cL #[.slice a zs.length c,vn (pN zs (j+3+(9+bI zs (j+3))))] 59)),(nb ρ11 5,(cL (iC 4 0 ((dN zs (j+1) 300:Nat):Int) 0 vz) 46)),(nb ρ15 6,(cL (oc ρ15 6) 46)),(nb ρ15 3,(cL (kM (bU zs (j+3)).s (bU zs (j+3)).p (bU zs (j+3)).c (bU zs (j+3)).d (((bU zs (j+3)).i:Nat):Int) (((bU zs (j+3)).n:Nat):Int) (.slice (oa ρ15 2) (nI (iT zs (j+3))).length (nb ρ15 2)) (.bool (pX zs (j+3)))) 51)),(nb ρ15 5,(cL (iC 1 0 0 0 (vs (nb ρ15 3) 1 1)) 46))] ?_)
  exact mR (v:=(vs (nb ρ15 6) (([tN 4 (dN zs (j+1) 300)])++([tK zs (j+3) (oa ρ15 2) (nb ρ15 2) (nb ρ15 3)])).length (aZ ρ15 6))) (fun _ hS=>⟨_,_,([tN 4 (dN zs (j+1) 300)])++([tK zs (j+3) (oa ρ15 2) (nb ρ15 2) (nb ρ15 3)]),j+3+(9+bI zs (j+3)),rfl,hS.below,hS.knows [1,0,0,0,0],lX (fun b hb=>hb) (hS.new1 rfl rfl (.tail _ (.head _))) ap15_6 (mX (kF ⟨⟨dS (z:=4) (by decide),dS (z:=0) (by decide),Nat.lt_of_lt_of_le (iG zs (j+1) (by decide)) (by decide),iL⟩,dB (fun _=>oG.nil),vP rfl (show (4:Int)≠2 by decide)⟩) (kF ⟨⟨dS (z:=1) (by decide),dS (z:=0) (by decide),(show (0:Nat)<4294967296 by decide),iL⟩,kf1 (fun b hb=>hb) (hS.new1 rfl rfl (.tail _ (.tail _ (.head _)))) (hS.facts.now.2.1.pers (fun b hb=>hb)) (lN zs (j+3) _ _),wO rfl (show (1:Int)≠2 by decide) (gX zs (j+3) _ _)⟩)) (Nat.le_of_ble_eq_true rfl) (Nat.le_of_ble_eq_true rfl)⟩)
 rw [hb3]
 refine jJ Tryz.f6 2 [0,2,3,5,24] (let qa:Value:=.bool (((dN zs j 6:Nat):Int)==2);[qa,qa]) ?_
 refine oC (((dN zs j 6:Nat):Int)==2) (fun hb5=>?_) (fun hb5=>?_)
 ·
  rw [hb5]
  refine rS Tryz.f6 7 [0,2,3] [] (fun ρ=>let qa:=vs (nb ρ 5) ([tH hv]).length (([tH hv]).length+aZ ρ 5);[vz,pt g,.agg (hB hv),.agg (iC 5 0 0 hv vz),vs (nb ρ 4) 1 1,qa,qa]) (fun ρ=>[(2,(bD 0 g (cL #[.slice a zs.length c,vn (pN zs (j+3))] 59))),(4,(nw ρ 4 (cL (iC 5 0 0 hv vz) 46))),(5,(nw ρ 5 (cL ((pV ([tH hv])).toArray++Builtin.zeroCells (Value.cells rQ) (aZ ρ 5)) 46)))]) (cR [[],[]]<|cX (o_callW _ [0] 18 (fun _=> #[pt g]) (fun _=>(.agg (hB hv))) (fun _=>[(g,(cL #[.slice a zs.length c,vn (pN zs (j+1))] 59))]) (fun _=>[(g,(cL #[.slice a zs.length c,vn (pN zs (j+3))] 59))]) (fun _ _ w hG hK=>(by as_aux_lemma=>(have hcall:=mhash_any g a c zs (j+1)  hz w hK (hG.pK [0] (fun _ hF=>⟨hF.1,trivial⟩));rw [ehv] at hcall;exact hcall))))<|cR [[],[]]<|cX (qN (fun _ ζ=>(vs (ζ.headD 0) ([tH hv]).length (([tH hv]).length+ζ.tail.headD 0))) (fun _ ζ=>(cL ((pV ([tH hv])).toArray++Builtin.zeroCells (Value.cells rQ) (ζ.tail.headD 0)) 46)) (fun ρ _ _ hG=>sK (ty:=24) (us:=[tH hv]) Tryz.underlying24 (dA (sz:=36) (b:=80) (z:=rQ) (by kernel_rfl) rfl) (nP (x:=(tH hv)) Tryz.underlying24 (hG.kn (g:=nb ρ 4) (o:=(cL (iC 5 0 0 hv vz) 46)) 33)) (Nat.le_of_ble_eq_true rfl) (Nat.le_of_ble_eq_true rfl) (by decide)))<|jE [[]]) (fun ρ17=>?_)
  refine aJ (aA (aB ?_))
  rcases Bool.eq_false_or_eq_true (((dN zs (j+3) 4:Nat):Int)==0) with hb6 | hb6
  ·
   refine sS Tryz.f6 8 [0,2,3,49] [] (fun _=>[pt g,vn (dN zs (j+3) 4),vT,vT,vs (nb ρ17 5) ([tH hv]).length (([tH hv]).length+aZ ρ17 5),vi 1,vT,vT]) (fun _=>[(1,(bD 0 g (cL #[.slice a zs.length c,vn (pN zs (j+4))] 59)))]) (cR [[]]<|cX (qW [0] (fun _ _ w hG hK=>next_any g a c zs (j+3) 4 (by decide) hz w hK (hG.pK [0] (fun _ hF=>⟨hF.1,trivial⟩))))<|cA (fun _=>vT) (fun _=>congrArg Value.bool hb6)<|jE [[],[],[],[],[]]) (fun _=>?_)
   refine lK [(0,(pt g)),(2,vz),(3,(vs (nb ρ17 5) ([tH hv]).length (([tH hv]).length+aZ ρ17 5))),(49,vT)] [(g,(cL #[.slice a zs.length c,vn (pN zs (j+4))] 59)),(nb ρ17 4,(cL (iC 5 0 0 hv vz) 46)),(nb ρ17 5,(cL ((pV ([tH hv])).toArray++Builtin.zeroCells (Value.cells rQ) (aZ ρ17 5)) 46))] ?_
   refine oY ?_
   refine iZ Tryz.f6 12 [0,2,3] [] (fun ρ=>let qa:=vs (nb ρ 10) (([tH hv])++([tM (1+dN zs (j+4) 2) zs (j+5) (oa ρ 4) (nb ρ 4) (j+5+(9+bI zs (j+5))) (oa ρ 6) (nb ρ 6) (nb ρ 7)])).length (aZ ρ 10);[vs (nb ρ17 5) ([tH hv]).length (([tH hv]).length+aZ ρ17 5),pt g,vn (1+dN zs (j+4) 2),pt g,.agg (kM (bU zs (j+5)).s (bU zs (j+5)).p (bU zs (j+5)).c (bU zs (j+5)).d (((bU zs (j+5)).i:Nat):Int) (((bU zs (j+5)).n:Nat):Int) (.slice (oa ρ 4) (nI (iT zs (j+5))).length (nb ρ 4)) (.bool (pX zs (j+5)))),pt g,.agg (kM (bU zs (j+5+(9+bI zs (j+5)))).s (bU zs (j+5+(9+bI zs (j+5)))).p (bU zs (j+5+(9+bI zs (j+5)))).c (bU zs (j+5+(9+bI zs (j+5)))).d (((bU zs (j+5+(9+bI zs (j+5)))).i:Nat):Int) (((bU zs (j+5+(9+bI zs (j+5)))).n:Nat):Int) (.slice (oa ρ 6) (nI (iT zs (j+5+(9+bI zs (j+5))))).length (nb ρ 6)) (.bool (pX zs (j+5+(9+bI zs (j+5)))))),vs (nb ρ 7) 2 2,.agg (iC 2 ((1+dN zs (j+4) 2:Nat):Int) 0 0 (vs (nb ρ 7) 2 2)),vs (nb ρ 9) 1 1,qa,qa]) (fun ρ=>[(2,(bD 0 g (cL #[.slice a zs.length c,vn (pN zs (j+5))] 59))),(4,(bD 0 g (cL #[.slice a zs.length c,vn (pN zs (j+5+(9+bI zs (j+5))))] 59))),(6,(bD 0 g (cL #[.slice a zs.length c,vn (pN zs (j+5+(9+bI zs (j+5))+(9+bI zs (j+5+(9+bI zs (j+5))))))] 59))),(7,(nw ρ 7 (cL ((kM (bU zs (j+5)).s (bU zs (j+5)).p (bU zs (j+5)).c (bU zs (j+5)).d (((bU zs (j+5)).i:Nat):Int) (((bU zs (j+5)).n:Nat):Int) (.slice (oa ρ 4) (nI (iT zs (j+5))).length (nb ρ 4)) (.bool (pX zs (j+5))))++(kM (bU zs (j+5+(9+bI zs (j+5)))).s (bU zs (j+5+(9+bI zs (j+5)))).p (bU zs (j+5+(9+bI zs (j+5)))).c (bU zs (j+5+(9+bI zs (j+5)))).d (((bU zs (j+5+(9+bI zs (j+5)))).i:Nat):Int) (((bU zs (j+5+(9+bI zs (j+5)))).n:Nat):Int) (.slice (oa ρ 6) (nI (iT zs (j+5+(9+bI zs (j+5))))).length (nb ρ 6)) (.bool (pX zs (j+5+(9+bI zs (j+5))))))) 51))),(9,(nw ρ 9 (cL (iC 2 ((1+dN zs (j+4) 2:Nat):Int) 0 0 (vs (nb ρ 7) 2 2)) 46))),(10,(bD 2 (nb ρ 10) (cL (oc ρ 10) 46)))]) (fun ρ=>[(4,fun w=>Fi w0 w .u32 (oa ρ 4) (nb ρ 4) (nI (iT zs (j+5)))),(6,fun w=>Fi w0 w .u32 (oa ρ 6) (nb ρ 6) (nI (iT zs (j+5+(9+bI zs (j+5)))))),(10,fun w=>At (oc ρ 10) (([tH hv])++([tM (1+dN zs (j+4) 2) zs (j+5) (oa ρ 4) (nb ρ 4) (j+5+(9+bI zs (j+5))) (oa ρ 6) (nb ρ 6) (nb ρ 7)])) (aZ ρ 10))]) (fun ρ=>(fun w=>Is w .i64 a c zs∧Fi w0 w .u32 (oa ρ 4) (nb ρ 4) (nI (iT zs (j+5)))∧Fi w0 w .u32 (oa ρ 6) (nb ρ 6) (nI (iT zs (j+5+(9+bI zs (j+5)))))∧True)) (fun ρ=>At (oc ρ 10) (([tH hv])++([tM (1+dN zs (j+4) 2) zs (j+5) (oa ρ 4) (nb ρ 4) (j+5+(9+bI zs (j+5))) (oa ρ 6) (nb ρ 6) (nb ρ 7)])) (aZ ρ 10)) (fun _ _ hF hf=>⟨⟨hF.1,hf 4,hf 6,trivial⟩,hf 10⟩) (cR [[],[]]<|cX (qW [0] (fun _ _ w hG hK=>range_any g a c zs (j+4) 1 2 (by decide) hz w hK (hG.pK [0] (fun _ hF=>⟨hF.1,trivial⟩))))<|cR [[]]<|cX (qWJ [0] (fun _ _ w hG hK=>fU g a c zs (j+5) hz w hK (hG.pK [0] (fun _ hF=>⟨hF.1,trivial⟩))))<|cR [[]]<|cX (qWJ [0] (fun _ _ w hG hK=>fU g a c zs (j+5+(9+bI zs (j+5))) hz w hK (hG.pK [0] (fun _ hF=>⟨hF.1,trivial⟩))))<|cR [[],[],[]]<|cX (qM 2 (fun ρ _ _ hG hg=>o5 (ty:=24) (g:=nb ρ17 5) (ts:=[tH hv]) (us:=[tM (1+dN zs (j+4) 2) zs (j+5) (oa ρ 4) (nb ρ 4) (j+5+(9+bI zs (j+5))) (oa ρ 6) (nb ρ 6) (nb ρ 7)]) Tryz.underlying24 (dA (sz:=36) (b:=80) (z:=rQ) (by kernel_rfl) rfl) (At.fresh (z:=rQ) rfl ([tH hv]) (aZ ρ17 5)) (nP (x:=(tM (1+dN zs (j+4) 2) zs (j+5) (oa ρ 4) (nb ρ 4) (j+5+(9+bI zs (j+5))) (oa ρ 6) (nb ρ 6) (nb ρ 7))) Tryz.underlying24 (hG.kn (g:=nb ρ 9) (o:=(cL (iC 2 ((1+dN zs (j+4) 2:Nat):Int) 0 0 (vs (nb ρ 7) 2 2)) 46)) 75)) (Nat.le_of_ble_eq_true rfl) (by decide) hg))<|jE [[]]) (fun ρ19 ap19_10=>?_)
   refine aF (aC (mD [(0,(pt g)),(2,(vs (nb ρ19 10) (([tH hv])++([tM (1+dN zs (j+4) 2) zs (j+5) (oa ρ19 4) (nb ρ19 4) (j+5+(9+bI zs (j+5))) (oa ρ19 6) (nb ρ19 6) (nb ρ19 7)])).length (aZ ρ19 10))),(3,(vs (nb ρ17 5) ([tH hv]).length (([tH hv]).length+aZ ρ17 5)))] [(g,(cL #[.slice a zs.length c,vn (pN zs (j+5+(9+bI zs (j+5))+(9+bI zs (j+5+(9+bI zs (j+5))))))] 59)),(nb ρ17 4,(cL (iC 5 0 0 hv vz) 46)),(nb ρ19 10,(cL (oc ρ19 10) 46)),(nb ρ19 7,(cL ((kM (bU zs (j+5)).s (bU zs (j+5)).p (bU zs (j+5)).c (bU zs (j+5)).d (((bU zs (j+5)).i:Nat):Int) (((bU zs (j+5)).n:Nat):Int) (.slice (oa ρ19 4) (nI (iT zs (j+5))).length (nb ρ19 4)) (.bool (pX zs (j+5))))++(kM (bU zs (j+5+(9+bI zs (j+5)))).s (bU zs (j+5+(9+bI zs (j+5)))).p (bU zs (j+5+(9+bI zs (j+5)))).c (bU zs (j+5+(9+bI zs (j+5)))).d (((bU zs (j+5+(9+bI zs (j+5)))).i:Nat):Int) (((bU zs (j+5+(9+bI zs (j+5)))).n:Nat):Int) (.slice (oa ρ19 6) (nI (iT zs (j+5+(9+bI zs (j+5))))).length (nb ρ19 6)) (.bool (pX zs (j+5+(9+bI zs (j+5))))))) 51)),(nb ρ19 9,(cL (iC 2 ((1+dN zs (j+4) 2:Nat):Int) 0 0 (vs (nb ρ19 7) 2 2)) 46))] ?_))
   exact mR (v:=(vs (nb ρ19 10) (([tH hv])++([tM (1+dN zs (j+4) 2) zs (j+5) (oa ρ19 4) (nb ρ19 4) (j+5+(9+bI zs (j+5))) (oa ρ19 6) (nb ρ19 6) (nb ρ19 7)])).length (aZ ρ19 10))) (fun _ hS=>⟨_,_,([tH hv])++([tM (1+dN zs (j+4) 2) zs (j+5) (oa ρ19 4) (nb ρ19 4) (j+5+(9+bI zs (j+5))) (oa ρ19 6) (nb ρ19 6) (nb ρ19 7)]),j+5+(9+bI zs (j+5))+(9+bI zs (j+5+(9+bI zs (j+5)))),rfl,hS.below,hS.knows [1,0,0,0,0],lX (fun b hb=>hb) (hS.new1 rfl rfl (.tail _ (.head _))) ap19_10 (mX (kF ⟨⟨dS (z:=5) (by decide),dS (z:=0) (by decide),(show (0:Nat)<4294967296 by decide),hhv⟩,dB (fun _=>oG.nil),vP rfl (show (5:Int)≠2 by decide)⟩) (kF ⟨⟨dS (z:=2) (by decide),rng_nat (by have:=iG zs (j+4) (by decide:0<2);omega),(show (0:Nat)<4294967296 by decide),iL⟩,kf2 (fun b hb=>hb) (hS.new1 rfl rfl (.tail _ (.tail _ (.head _)))) (hS.facts.now.2.1.pers (fun b hb=>hb)) (lN zs (j+5) _ _) (hS.facts.now.2.2.1.pers (fun b hb=>hb)) (lN zs (j+5+(9+bI zs (j+5))) _ _),soft_2 rfl (gX zs (j+5) _ _) (gX zs (j+5+(9+bI zs (j+5))) _ _)⟩)) (Nat.le_of_ble_eq_true rfl) (Nat.le_of_ble_eq_true rfl)⟩)
  refine sS Tryz.f6 8 [0,2,3,49] [] (fun _=>[pt g,vn (dN zs (j+3) 4),vF,vF,undef,undef,undef,vF]) (fun _=>[(1,(bD 0 g (cL #[.slice a zs.length c,vn (pN zs (j+4))] 59)))]) (cR [[]]<|cX (qW [0] (fun _ _ w hG hK=>next_any g a c zs (j+3) 4 (by decide) hz w hK (hG.pK [0] (fun _ hF=>⟨hF.1,trivial⟩))))<|cA (fun _=>vF) (fun _=>congrArg Value.bool hb6)<|jE [[],[],[],[],[]]) (fun _=>?_)
  refine lK [(0,(pt g)),(2,vz),(3,(vs (nb ρ17 5) ([tH hv]).length (([tH hv]).length+aZ ρ17 5))),(49,vF)] [(g,(cL #[.slice a zs.length c,vn (pN zs (j+4))] 59)),(nb ρ17 4,(cL (iC 5 0 0 hv vz) 46)),(nb ρ17 5,(cL ((pV ([tH hv])).toArray++Builtin.zeroCells (Value.cells rQ) (aZ ρ17 5)) 46))] ?_
  refine oN ?_
  refine aG (aA ?_)
  refine iZ Tryz.f6 8 [2] [] (fun ρ=>let qa:=vs (nb ρ 6) (([tH hv])++([tK zs (j+4) (oa ρ 2) (nb ρ 2) (nb ρ 3)])).length (aZ ρ 6);[vs (nb ρ17 5) ([tH hv]).length (([tH hv]).length+aZ ρ17 5),pt g,.agg (kM (bU zs (j+4)).s (bU zs (j+4)).p (bU zs (j+4)).c (bU zs (j+4)).d (((bU zs (j+4)).i:Nat):Int) (((bU zs (j+4)).n:Nat):Int) (.slice (oa ρ 2) (nI (iT zs (j+4))).length (nb ρ 2)) (.bool (pX zs (j+4)))),vs (nb ρ 3) 1 1,.agg (iC 1 0 0 0 (vs (nb ρ 3) 1 1)),vs (nb ρ 5) 1 1,qa,qa]) (fun ρ=>[(2,(bD 0 g (cL #[.slice a zs.length c,vn (pN zs (j+4+(9+bI zs (j+4))))] 59))),(3,(nw ρ 3 (cL (kM (bU zs (j+4)).s (bU zs (j+4)).p (bU zs (j+4)).c (bU zs (j+4)).d (((bU zs (j+4)).i:Nat):Int) (((bU zs (j+4)).n:Nat):Int) (.slice (oa ρ 2) (nI (iT zs (j+4))).length (nb ρ 2)) (.bool (pX zs (j+4)))) 51))),(5,(nw ρ 5 (cL (iC 1 0 0 0 (vs (nb ρ 3) 1 1)) 46))),(6,(bD 2 (nb ρ 6) (cL (oc ρ 6) 46)))]) (fun ρ=>[(2,fun w=>Fi w0 w .u32 (oa ρ 2) (nb ρ 2) (nI (iT zs (j+4)))),(6,fun w=>At (oc ρ 6) (([tH hv])++([tK zs (j+4) (oa ρ 2) (nb ρ 2) (nb ρ 3)])) (aZ ρ 6))]) (fun ρ=>(fun w=>Is w .i64 a c zs∧Fi w0 w .u32 (oa ρ 2) (nb ρ 2) (nI (iT zs (j+4)))∧True)) (fun ρ=>At (oc ρ 6) (([tH hv])++([tK zs (j+4) (oa ρ 2) (nb ρ 2) (nb ρ 3)])) (aZ ρ 6)) (fun _ _ hF hf=>⟨⟨hF.1,hf 2,trivial⟩,hf 6⟩) (cR [[],[]]<|cX (qWJ [0] (fun _ _ w hG hK=>fU g a c zs (j+4) hz w hK (hG.pK [0] (fun _ hF=>⟨hF.1,trivial⟩))))<|cR [[],[],[]]<|cX (qM 2 (fun ρ _ _ hG hg=>o5 (ty:=24) (g:=nb ρ17 5) (ts:=[tH hv]) (us:=[tK zs (j+4) (oa ρ 2) (nb ρ 2) (nb ρ 3)]) Tryz.underlying24 (dA (sz:=36) (b:=80) (z:=rQ) (by kernel_rfl) rfl) (At.fresh (z:=rQ) rfl ([tH hv]) (aZ ρ17 5)) (nP (x:=(tK zs (j+4) (oa ρ 2) (nb ρ 2) (nb ρ 3))) Tryz.underlying24 (hG.kn (g:=nb ρ 5) (o:=(cL (iC 1 0 0 0 (vs (nb ρ 3) 1 1)) 46)) 43)) (Nat.le_of_ble_eq_true rfl) (by decide) hg))<|jE [[]]) (fun ρ21 ap21_6=>?_)
  refine aF (mD [(2,(vs (nb ρ21 6) (([tH hv])++([tK zs (j+4) (oa ρ21 2) (nb ρ21 2) (nb ρ21 3)])).length (aZ ρ21 6)))] [(g,(cL #[.slice a zs.length c,vn (pN zs (j+4+(9+bI zs (j+4))))] 59)),(nb ρ17 4,(cL (iC 5 0 0 hv vz) 46)),(nb ρ21 6,(cL (oc ρ21 6) 46)),(nb ρ21 3,(cL (kM (bU zs (j+4)).s (bU zs (j+4)).p (bU zs (j+4)).c (bU zs (j+4)).d (((bU zs (j+4)).i:Nat):Int) (((bU zs (j+4)).n:Nat):Int) (.slice (oa ρ21 2) (nI (iT zs (j+4))).length (nb ρ21 2)) (.bool (pX zs (j+4)))) 51)),(nb ρ21 5,(cL (iC 1 0 0 0 (vs (nb ρ21 3) 1 1)) 46))] ?_)
  exact mR (v:=(vs (nb ρ21 6) (([tH hv])++([tK zs (j+4) (oa ρ21 2) (nb ρ21 2) (nb ρ21 3)])).length (aZ ρ21 6))) (fun _ hS=>⟨_,_,([tH hv])++([tK zs (j+4) (oa ρ21 2) (nb ρ21 2) (nb ρ21 3)]),j+4+(9+bI zs (j+4)),rfl,hS.below,hS.knows [1,0,0,0,0],lX (fun b hb=>hb) (hS.new1 rfl rfl (.tail _ (.head _))) ap21_6 (mX (kF ⟨⟨dS (z:=5) (by decide),dS (z:=0) (by decide),(show (0:Nat)<4294967296 by decide),hhv⟩,dB (fun _=>oG.nil),vP rfl (show (5:Int)≠2 by decide)⟩) (kF ⟨⟨dS (z:=1) (by decide),dS (z:=0) (by decide),(show (0:Nat)<4294967296 by decide),iL⟩,kf1 (fun b hb=>hb) (hS.new1 rfl rfl (.tail _ (.tail _ (.head _)))) (hS.facts.now.2.1.pers (fun b hb=>hb)) (lN zs (j+4) _ _),wO rfl (show (1:Int)≠2 by decide) (gX zs (j+4) _ _)⟩)) (Nat.le_of_ble_eq_true rfl) (Nat.le_of_ble_eq_true rfl)⟩)
 rw [hb5]
 refine jJ Tryz.f6 2 [0,2,3,32] (let qa:Value:=.bool (((dN zs j 6:Nat):Int)==3);[qa,qa]) ?_
 refine lK [(0,(pt g)),(2,vz),(3,vz),(32,(.bool (((dN zs j 6:Nat):Int)==3)))] [(g,(cL #[.slice a zs.length c,vn (pN zs (j+1))] 59))] ?_
 refine oC (((dN zs j 6:Nat):Int)==3) (fun hb7=>?_) (fun hb7=>?_)
 ·
  rw [hb7]
  refine rSf Tryz.f6 9 [0,2,3] [] (fun ρ=>let qa:=[tE,tK zs (j+1) (oa ρ 3) (nb ρ 3) (nb ρ 4)];let qb:=vs (nb ρ 7) qa.length (qa.length+aZ ρ 7);[vz,.agg (iC 6 0 0 0 vz),pt g,.agg (kM (bU zs (j+1)).s (bU zs (j+1)).p (bU zs (j+1)).c (bU zs (j+1)).d (((bU zs (j+1)).i:Nat):Int) (((bU zs (j+1)).n:Nat):Int) (.slice (oa ρ 3) (nI (iT zs (j+1))).length (nb ρ 3)) (.bool (pX zs (j+1)))),vs (nb ρ 4) 1 1,.agg (iC 1 0 0 0 (vs (nb ρ 4) 1 1)),vs (nb ρ 6) 2 2,qb,qb]) (fun ρ=>[(3,(bD 0 g (cL #[.slice a zs.length c,vn (pN zs (j+1+(9+bI zs (j+1))))] 59))),(4,(nw ρ 4 (cL (kM (bU zs (j+1)).s (bU zs (j+1)).p (bU zs (j+1)).c (bU zs (j+1)).d (((bU zs (j+1)).i:Nat):Int) (((bU zs (j+1)).n:Nat):Int) (.slice (oa ρ 3) (nI (iT zs (j+1))).length (nb ρ 3)) (.bool (pX zs (j+1)))) 51))),(6,(nw ρ 6 (cL ((iC 6 0 0 0 vz)++(iC 1 0 0 0 (vs (nb ρ 4) 1 1))) 46))),(7,(nw ρ 7 (cL ((pV ([tE,tK zs (j+1) (oa ρ 3) (nb ρ 3) (nb ρ 4)])).toArray++Builtin.zeroCells (Value.cells rQ) (aZ ρ 7)) 46)))]) (fun ρ=>[(3,fun w=>Fi w0 w .u32 (oa ρ 3) (nb ρ 3) (nI (iT zs (j+1))))]) (fun ρ=>(fun w=>Is w .i64 a c zs∧Fi w0 w .u32 (oa ρ 3) (nb ρ 3) (nI (iT zs (j+1)))∧True)) (fun _=>True) (fun _ _ hF hf=>⟨⟨hF.1,hf 3,trivial⟩,trivial⟩) (cR [[],[],[]]<|cX (qWJ [0] (fun _ _ w hG hK=>fU g a c zs (j+1) hz w hK (hG.pK [0] (fun _ hF=>⟨hF.1,trivial⟩))))<|cR [[],[],[]]<|cX (qN (fun ρ ζ=>(vs (ζ.headD 0) ([tE,tK zs (j+1) (oa ρ 3) (nb ρ 3) (nb ρ 4)]).length (([tE,tK zs (j+1) (oa ρ 3) (nb ρ 3) (nb ρ 4)]).length+ζ.tail.headD 0))) (fun ρ ζ=>(cL ((pV ([tE,tK zs (j+1) (oa ρ 3) (nb ρ 3) (nb ρ 4)])).toArray++Builtin.zeroCells (Value.cells rQ) (ζ.tail.headD 0)) 46)) (fun ρ _ _ hG=>sK (ty:=24) (us:=[tE,tK zs (j+1) (oa ρ 3) (nb ρ 3) (nb ρ 4)]) Tryz.underlying24 (dA (sz:=36) (b:=80) (z:=rQ) (by kernel_rfl) rfl) (src_t2 (x:=tE) (y:=(tK zs (j+1) (oa ρ 3) (nb ρ 3) (nb ρ 4))) Tryz.underlying24 (hG.kn (g:=nb ρ 6) (o:=(cL ((iC 6 0 0 0 vz)++(iC 1 0 0 0 (vs (nb ρ 4) 1 1))) 46)) 49)) (Nat.le_of_ble_eq_true rfl) (Nat.le_of_ble_eq_true rfl) (by decide)))<|jE [[]]) (fun ρ23 _=>?_)
  refine aJ (aA (aB ?_))
  rcases Bool.eq_false_or_eq_true (((dN zs (j+1+(9+bI zs (j+1))) 4:Nat):Int)==0) with hb8 | hb8
  ·
   refine sS Tryz.f6 8 [0,2,3,49] [] (fun _=>let qa:=[tE,tK zs (j+1) (oa ρ23 3) (nb ρ23 3) (nb ρ23 4)];[pt g,vn (dN zs (j+1+(9+bI zs (j+1))) 4),vT,vT,vs (nb ρ23 7) qa.length (qa.length+aZ ρ23 7),vi 2,vF,vF]) (fun _=>[(1,(bD 0 g (cL #[.slice a zs.length c,vn (pN zs (j+1+(9+bI zs (j+1))+1))] 59)))]) (cR [[]]<|cX (qW [0] (fun _ _ w hG hK=>next_any g a c zs (j+1+(9+bI zs (j+1))) 4 (by decide) hz w hK (hG.pK [0] (fun _ hF=>⟨hF.1,trivial⟩))))<|cA (fun _=>vT) (fun _=>congrArg Value.bool hb8)<|jE [[],[],[],[],[]]) (fun _=>?_)
   refine oN ?_
   refine aG (aA ?_)
   refine iZ Tryz.f6 8 [2] [] (fun ρ=>let qa:=[tE,tK zs (j+1) (oa ρ23 3) (nb ρ23 3) (nb ρ23 4)];let qb:=vs (nb ρ 6) (qa++([tK zs (j+1+(9+bI zs (j+1))+1) (oa ρ 2) (nb ρ 2) (nb ρ 3)])).length (aZ ρ 6);[vs (nb ρ23 7) qa.length (qa.length+aZ ρ23 7),pt g,.agg (kM (bU zs (j+1+(9+bI zs (j+1))+1)).s (bU zs (j+1+(9+bI zs (j+1))+1)).p (bU zs (j+1+(9+bI zs (j+1))+1)).c (bU zs (j+1+(9+bI zs (j+1))+1)).d (((bU zs (j+1+(9+bI zs (j+1))+1)).i:Nat):Int) (((bU zs (j+1+(9+bI zs (j+1))+1)).n:Nat):Int) (.slice (oa ρ 2) (nI (iT zs (j+1+(9+bI zs (j+1))+1))).length (nb ρ 2)) (.bool (pX zs (j+1+(9+bI zs (j+1))+1)))),vs (nb ρ 3) 1 1,.agg (iC 1 0 0 0 (vs (nb ρ 3) 1 1)),vs (nb ρ 5) 1 1,qb,qb]) (fun ρ=>[(2,(bD 0 g (cL #[.slice a zs.length c,vn (pN zs (j+1+(9+bI zs (j+1))+1+(9+bI zs (j+1+(9+bI zs (j+1))+1))))] 59))),(3,(nw ρ 3 (cL (kM (bU zs (j+1+(9+bI zs (j+1))+1)).s (bU zs (j+1+(9+bI zs (j+1))+1)).p (bU zs (j+1+(9+bI zs (j+1))+1)).c (bU zs (j+1+(9+bI zs (j+1))+1)).d (((bU zs (j+1+(9+bI zs (j+1))+1)).i:Nat):Int) (((bU zs (j+1+(9+bI zs (j+1))+1)).n:Nat):Int) (.slice (oa ρ 2) (nI (iT zs (j+1+(9+bI zs (j+1))+1))).length (nb ρ 2)) (.bool (pX zs (j+1+(9+bI zs (j+1))+1)))) 51))),(5,(nw ρ 5 (cL (iC 1 0 0 0 (vs (nb ρ 3) 1 1)) 46))),(6,(bD 3 (nb ρ 6) (cL (oc ρ 6) 46)))]) (fun ρ=>[(2,fun w=>Fi w0 w .u32 (oa ρ 2) (nb ρ 2) (nI (iT zs (j+1+(9+bI zs (j+1))+1)))),(6,fun w=>At (oc ρ 6) (([tE,tK zs (j+1) (oa ρ23 3) (nb ρ23 3) (nb ρ23 4)])++([tK zs (j+1+(9+bI zs (j+1))+1) (oa ρ 2) (nb ρ 2) (nb ρ 3)])) (aZ ρ 6))]) (fun ρ=>(fun w=>Is w .i64 a c zs∧Fi w0 w .u32 (oa ρ23 3) (nb ρ23 3) (nI (iT zs (j+1)))∧Fi w0 w .u32 (oa ρ 2) (nb ρ 2) (nI (iT zs (j+1+(9+bI zs (j+1))+1)))∧True)) (fun ρ=>At (oc ρ 6) (([tE,tK zs (j+1) (oa ρ23 3) (nb ρ23 3) (nb ρ23 4)])++([tK zs (j+1+(9+bI zs (j+1))+1) (oa ρ 2) (nb ρ 2) (nb ρ 3)])) (aZ ρ 6)) (fun _ _ hF hf=>⟨⟨hF.1,hF.2.1,hf 2,trivial⟩,hf 6⟩) (cR [[],[]]<|cX (qWJ [0] (fun _ _ w hG hK=>fU g a c zs (j+1+(9+bI zs (j+1))+1) hz w hK (hG.pK [0] (fun _ hF=>⟨hF.1,trivial⟩))))<|cR [[],[],[]]<|cX (qM 3 (fun ρ _ _ hG hg=>o5 (ty:=24) (g:=nb ρ23 7) (ts:=[tE,tK zs (j+1) (oa ρ23 3) (nb ρ23 3) (nb ρ23 4)]) (us:=[tK zs (j+1+(9+bI zs (j+1))+1) (oa ρ 2) (nb ρ 2) (nb ρ 3)]) Tryz.underlying24 (dA (sz:=36) (b:=80) (z:=rQ) (by kernel_rfl) rfl) (At.fresh (z:=rQ) rfl ([tE,tK zs (j+1) (oa ρ23 3) (nb ρ23 3) (nb ρ23 4)]) (aZ ρ23 7)) (nP (x:=(tK zs (j+1+(9+bI zs (j+1))+1) (oa ρ 2) (nb ρ 2) (nb ρ 3))) Tryz.underlying24 (hG.kn (g:=nb ρ 5) (o:=(cL (iC 1 0 0 0 (vs (nb ρ 3) 1 1)) 46)) 44)) (Nat.le_of_ble_eq_true rfl) (by decide) hg))<|jE [[]]) (fun ρ25 ap25_6=>?_)
   refine aF (mD [(2,(vs (nb ρ25 6) (([tE,tK zs (j+1) (oa ρ23 3) (nb ρ23 3) (nb ρ23 4)])++([tK zs (j+1+(9+bI zs (j+1))+1) (oa ρ25 2) (nb ρ25 2) (nb ρ25 3)])).length (aZ ρ25 6)))] [(g,(cL #[.slice a zs.length c,vn (pN zs (j+1+(9+bI zs (j+1))+1+(9+bI zs (j+1+(9+bI zs (j+1))+1))))] 59)),(nb ρ23 4,(cL (kM (bU zs (j+1)).s (bU zs (j+1)).p (bU zs (j+1)).c (bU zs (j+1)).d (((bU zs (j+1)).i:Nat):Int) (((bU zs (j+1)).n:Nat):Int) (.slice (oa ρ23 3) (nI (iT zs (j+1))).length (nb ρ23 3)) (.bool (pX zs (j+1)))) 51)),(nb ρ23 6,(cL ((iC 6 0 0 0 vz)++(iC 1 0 0 0 (vs (nb ρ23 4) 1 1))) 46)),(nb ρ25 6,(cL (oc ρ25 6) 46)),(nb ρ25 3,(cL (kM (bU zs (j+1+(9+bI zs (j+1))+1)).s (bU zs (j+1+(9+bI zs (j+1))+1)).p (bU zs (j+1+(9+bI zs (j+1))+1)).c (bU zs (j+1+(9+bI zs (j+1))+1)).d (((bU zs (j+1+(9+bI zs (j+1))+1)).i:Nat):Int) (((bU zs (j+1+(9+bI zs (j+1))+1)).n:Nat):Int) (.slice (oa ρ25 2) (nI (iT zs (j+1+(9+bI zs (j+1))+1))).length (nb ρ25 2)) (.bool (pX zs (j+1+(9+bI zs (j+1))+1)))) 51)),(nb ρ25 5,(cL (iC 1 0 0 0 (vs (nb ρ25 3) 1 1)) 46))] ?_)
   exact mR (v:=(vs (nb ρ25 6) (([tE,tK zs (j+1) (oa ρ23 3) (nb ρ23 3) (nb ρ23 4)])++([tK zs (j+1+(9+bI zs (j+1))+1) (oa ρ25 2) (nb ρ25 2) (nb ρ25 3)])).length (aZ ρ25 6))) (fun _ hS=>⟨_,_,([tE,tK zs (j+1) (oa ρ23 3) (nb ρ23 3) (nb ρ23 4)])++([tK zs (j+1+(9+bI zs (j+1))+1) (oa ρ25 2) (nb ρ25 2) (nb ρ25 3)]),j+1+(9+bI zs (j+1))+1+(9+bI zs (j+1+(9+bI zs (j+1))+1)),rfl,hS.below,hS.knows [1,0,0,0,0,0],lX (fun b hb=>hb) (hS.new1 rfl rfl (.tail _ (.tail _ (.head _)))) ap25_6 (mX (made_2 ⟨⟨dS (z:=6) (by decide),dS (z:=0) (by decide),(show (0:Nat)<4294967296 by decide),iL⟩,dB (fun _=>oG.nil),vP rfl (show (6:Int)≠2 by decide)⟩ ⟨⟨dS (z:=1) (by decide),dS (z:=0) (by decide),(show (0:Nat)<4294967296 by decide),iL⟩,kf1 (fun b hb=>hb) (hS.new1 rfl rfl (.head _)) (hS.facts.now.2.1.pers (fun b hb=>hb)) (lN zs (j+1) _ _),wO rfl (show (1:Int)≠2 by decide) (gX zs (j+1) _ _)⟩) (kF ⟨⟨dS (z:=1) (by decide),dS (z:=0) (by decide),(show (0:Nat)<4294967296 by decide),iL⟩,kf1 (fun b hb=>hb) (hS.new1 rfl rfl (.tail _ (.tail _ (.tail _ (.head _))))) (hS.facts.now.2.2.1.pers (fun b hb=>hb)) (lN zs (j+1+(9+bI zs (j+1))+1) _ _),wO rfl (show (1:Int)≠2 by decide) (gX zs (j+1+(9+bI zs (j+1))+1) _ _)⟩)) (Nat.le_of_ble_eq_true rfl) (Nat.le_of_ble_eq_true rfl)⟩)
  refine sS Tryz.f6 8 [0,2,3,49] [] (fun _=>[pt g,vn (dN zs (j+1+(9+bI zs (j+1))) 4),vF,vF,undef,undef,undef,vF]) (fun _=>[(1,(bD 0 g (cL #[.slice a zs.length c,vn (pN zs (j+1+(9+bI zs (j+1))+1))] 59)))]) (cR [[]]<|cX (qW [0] (fun _ _ w hG hK=>next_any g a c zs (j+1+(9+bI zs (j+1))) 4 (by decide) hz w hK (hG.pK [0] (fun _ hF=>⟨hF.1,trivial⟩))))<|cA (fun _=>vF) (fun _=>congrArg Value.bool hb8)<|jE [[],[],[],[],[]]) (fun _=>?_)
  refine oN ?_
  refine aG (aA ?_)
  refine iZ Tryz.f6 8 [2] [] (fun ρ=>let qa:=[tE,tK zs (j+1) (oa ρ23 3) (nb ρ23 3) (nb ρ23 4)];let qb:=vs (nb ρ 6) (qa++([tK zs (j+1+(9+bI zs (j+1))+1) (oa ρ 2) (nb ρ 2) (nb ρ 3)])).length (aZ ρ 6);[vs (nb ρ23 7) qa.length (qa.length+aZ ρ23 7),pt g,.agg (kM (bU zs (j+1+(9+bI zs (j+1))+1)).s (bU zs (j+1+(9+bI zs (j+1))+1)).p (bU zs (j+1+(9+bI zs (j+1))+1)).c (bU zs (j+1+(9+bI zs (j+1))+1)).d (((bU zs (j+1+(9+bI zs (j+1))+1)).i:Nat):Int) (((bU zs (j+1+(9+bI zs (j+1))+1)).n:Nat):Int) (.slice (oa ρ 2) (nI (iT zs (j+1+(9+bI zs (j+1))+1))).length (nb ρ 2)) (.bool (pX zs (j+1+(9+bI zs (j+1))+1)))),vs (nb ρ 3) 1 1,.agg (iC 1 0 0 0 (vs (nb ρ 3) 1 1)),vs (nb ρ 5) 1 1,qb,qb]) (fun ρ=>[(2,(bD 0 g (cL #[.slice a zs.length c,vn (pN zs (j+1+(9+bI zs (j+1))+1+(9+bI zs (j+1+(9+bI zs (j+1))+1))))] 59))),(3,(nw ρ 3 (cL (kM (bU zs (j+1+(9+bI zs (j+1))+1)).s (bU zs (j+1+(9+bI zs (j+1))+1)).p (bU zs (j+1+(9+bI zs (j+1))+1)).c (bU zs (j+1+(9+bI zs (j+1))+1)).d (((bU zs (j+1+(9+bI zs (j+1))+1)).i:Nat):Int) (((bU zs (j+1+(9+bI zs (j+1))+1)).n:Nat):Int) (.slice (oa ρ 2) (nI (iT zs (j+1+(9+bI zs (j+1))+1))).length (nb ρ 2)) (.bool (pX zs (j+1+(9+bI zs (j+1))+1)))) 51))),(5,(nw ρ 5 (cL (iC 1 0 0 0 (vs (nb ρ 3) 1 1)) 46))),(6,(bD 3 (nb ρ 6) (cL (oc ρ 6) 46)))]) (fun ρ=>[(2,fun w=>Fi w0 w .u32 (oa ρ 2) (nb ρ 2) (nI (iT zs (j+1+(9+bI zs (j+1))+1)))),(6,fun w=>At (oc ρ 6) (([tE,tK zs (j+1) (oa ρ23 3) (nb ρ23 3) (nb ρ23 4)])++([tK zs (j+1+(9+bI zs (j+1))+1) (oa ρ 2) (nb ρ 2) (nb ρ 3)])) (aZ ρ 6))]) (fun ρ=>(fun w=>Is w .i64 a c zs∧Fi w0 w .u32 (oa ρ23 3) (nb ρ23 3) (nI (iT zs (j+1)))∧Fi w0 w .u32 (oa ρ 2) (nb ρ 2) (nI (iT zs (j+1+(9+bI zs (j+1))+1)))∧True)) (fun ρ=>At (oc ρ 6) (([tE,tK zs (j+1) (oa ρ23 3) (nb ρ23 3) (nb ρ23 4)])++([tK zs (j+1+(9+bI zs (j+1))+1) (oa ρ 2) (nb ρ 2) (nb ρ 3)])) (aZ ρ 6)) (fun _ _ hF hf=>⟨⟨hF.1,hF.2.1,hf 2,trivial⟩,hf 6⟩) (cR [[],[]]<|cX (qWJ [0] (fun _ _ w hG hK=>fU g a c zs (j+1+(9+bI zs (j+1))+1) hz w hK (hG.pK [0] (fun _ hF=>⟨hF.1,trivial⟩))))<|cR [[],[],[]]<|cX (qM 3 (fun ρ _ _ hG hg=>o5 (ty:=24) (g:=nb ρ23 7) (ts:=[tE,tK zs (j+1) (oa ρ23 3) (nb ρ23 3) (nb ρ23 4)]) (us:=[tK zs (j+1+(9+bI zs (j+1))+1) (oa ρ 2) (nb ρ 2) (nb ρ 3)]) Tryz.underlying24 (dA (sz:=36) (b:=80) (z:=rQ) (by kernel_rfl) rfl) (At.fresh (z:=rQ) rfl ([tE,tK zs (j+1) (oa ρ23 3) (nb ρ23 3) (nb ρ23 4)]) (aZ ρ23 7)) (nP (x:=(tK zs (j+1+(9+bI zs (j+1))+1) (oa ρ 2) (nb ρ 2) (nb ρ 3))) Tryz.underlying24 (hG.kn (g:=nb ρ 5) (o:=(cL (iC 1 0 0 0 (vs (nb ρ 3) 1 1)) 46)) 44)) (Nat.le_of_ble_eq_true rfl) (by decide) hg))<|jE [[]]) (fun ρ27 ap27_6=>?_)
  refine aF (mD [(2,(vs (nb ρ27 6) (([tE,tK zs (j+1) (oa ρ23 3) (nb ρ23 3) (nb ρ23 4)])++([tK zs (j+1+(9+bI zs (j+1))+1) (oa ρ27 2) (nb ρ27 2) (nb ρ27 3)])).length (aZ ρ27 6)))] [(g,(cL #[.slice a zs.length c,vn (pN zs (j+1+(9+bI zs (j+1))+1+(9+bI zs (j+1+(9+bI zs (j+1))+1))))] 59)),(nb ρ23 4,(cL (kM (bU zs (j+1)).s (bU zs (j+1)).p (bU zs (j+1)).c (bU zs (j+1)).d (((bU zs (j+1)).i:Nat):Int) (((bU zs (j+1)).n:Nat):Int) (.slice (oa ρ23 3) (nI (iT zs (j+1))).length (nb ρ23 3)) (.bool (pX zs (j+1)))) 51)),(nb ρ23 6,(cL ((iC 6 0 0 0 vz)++(iC 1 0 0 0 (vs (nb ρ23 4) 1 1))) 46)),(nb ρ27 6,(cL (oc ρ27 6) 46)),(nb ρ27 3,(cL (kM (bU zs (j+1+(9+bI zs (j+1))+1)).s (bU zs (j+1+(9+bI zs (j+1))+1)).p (bU zs (j+1+(9+bI zs (j+1))+1)).c (bU zs (j+1+(9+bI zs (j+1))+1)).d (((bU zs (j+1+(9+bI zs (j+1))+1)).i:Nat):Int) (((bU zs (j+1+(9+bI zs (j+1))+1)).n:Nat):Int) (.slice (oa ρ27 2) (nI (iT zs (j+1+(9+bI zs (j+1))+1))).length (nb ρ27 2)) (.bool (pX zs (j+1+(9+bI zs (j+1))+1)))) 51)),(nb ρ27 5,(cL (iC 1 0 0 0 (vs (nb ρ27 3) 1 1)) 46))] ?_)
  exact mR (v:=(vs (nb ρ27 6) (([tE,tK zs (j+1) (oa ρ23 3) (nb ρ23 3) (nb ρ23 4)])++([tK zs (j+1+(9+bI zs (j+1))+1) (oa ρ27 2) (nb ρ27 2) (nb ρ27 3)])).length (aZ ρ27 6))) (fun _ hS=>⟨_,_,([tE,tK zs (j+1) (oa ρ23 3) (nb ρ23 3) (nb ρ23 4)])++([tK zs (j+1+(9+bI zs (j+1))+1) (oa ρ27 2) (nb ρ27 2) (nb ρ27 3)]),j+1+(9+bI zs (j+1))+1+(9+bI zs (j+1+(9+bI zs (j+1))+1)),rfl,hS.below,hS.knows [1,0,0,0,0,0],lX (fun b hb=>hb) (hS.new1 rfl rfl (.tail _ (.tail _ (.head _)))) ap27_6 (mX (made_2 ⟨⟨dS (z:=6) (by decide),dS (z:=0) (by decide),(show (0:Nat)<4294967296 by decide),iL⟩,dB (fun _=>oG.nil),vP rfl (show (6:Int)≠2 by decide)⟩ ⟨⟨dS (z:=1) (by decide),dS (z:=0) (by decide),(show (0:Nat)<4294967296 by decide),iL⟩,kf1 (fun b hb=>hb) (hS.new1 rfl rfl (.head _)) (hS.facts.now.2.1.pers (fun b hb=>hb)) (lN zs (j+1) _ _),wO rfl (show (1:Int)≠2 by decide) (gX zs (j+1) _ _)⟩) (kF ⟨⟨dS (z:=1) (by decide),dS (z:=0) (by decide),(show (0:Nat)<4294967296 by decide),iL⟩,kf1 (fun b hb=>hb) (hS.new1 rfl rfl (.tail _ (.tail _ (.tail _ (.head _))))) (hS.facts.now.2.2.1.pers (fun b hb=>hb)) (lN zs (j+1+(9+bI zs (j+1))+1) _ _),wO rfl (show (1:Int)≠2 by decide) (gX zs (j+1+(9+bI zs (j+1))+1) _ _)⟩)) (Nat.le_of_ble_eq_true rfl) (Nat.le_of_ble_eq_true rfl)⟩)
 rw [hb7]
 refine aG (aJ (aA (aB ?_)))
 rcases Bool.eq_false_or_eq_true (((dN zs (j+1) 4:Nat):Int)==0) with hb9 | hb9
 ·
  refine sS Tryz.f6 8 [0,2,3,49] [] (fun _=>[pt g,vn (dN zs (j+1) 4),vT,vT,vz,vi 0,vT,vT]) (fun _=>[(1,(bD 0 g (cL #[.slice a zs.length c,vn (pN zs (j+2))] 59)))]) (cR [[]]<|cX (qW [0] (fun _ _ w hG hK=>next_any g a c zs (j+1) 4 (by decide) hz w hK (hG.pK [0] (fun _ hF=>⟨hF.1,trivial⟩))))<|cA (fun _=>vT) (fun _=>congrArg Value.bool hb9)<|jE [[],[],[],[],[]]) (fun _=>?_)
  refine oY ?_
  refine iZ Tryz.f6 12 [0,2,3] [] (fun ρ=>let qa:=[tM (1+dN zs (j+2) 2) zs (j+3) (oa ρ 4) (nb ρ 4) (j+3+(9+bI zs (j+3))) (oa ρ 6) (nb ρ 6) (nb ρ 7)];let qb:=vs (nb ρ 10) qa.length (qa.length+aZ ρ 10);[vz,pt g,vn (1+dN zs (j+2) 2),pt g,.agg (kM (bU zs (j+3)).s (bU zs (j+3)).p (bU zs (j+3)).c (bU zs (j+3)).d (((bU zs (j+3)).i:Nat):Int) (((bU zs (j+3)).n:Nat):Int) (.slice (oa ρ 4) (nI (iT zs (j+3))).length (nb ρ 4)) (.bool (pX zs (j+3)))),pt g,.agg (kM (bU zs (j+3+(9+bI zs (j+3)))).s (bU zs (j+3+(9+bI zs (j+3)))).p (bU zs (j+3+(9+bI zs (j+3)))).c (bU zs (j+3+(9+bI zs (j+3)))).d (((bU zs (j+3+(9+bI zs (j+3)))).i:Nat):Int) (((bU zs (j+3+(9+bI zs (j+3)))).n:Nat):Int) (.slice (oa ρ 6) (nI (iT zs (j+3+(9+bI zs (j+3))))).length (nb ρ 6)) (.bool (pX zs (j+3+(9+bI zs (j+3)))))),vs (nb ρ 7) 2 2,.agg (iC 2 ((1+dN zs (j+2) 2:Nat):Int) 0 0 (vs (nb ρ 7) 2 2)),vs (nb ρ 9) 1 1,qb,qb]) (fun ρ=>[(2,(bD 0 g (cL #[.slice a zs.length c,vn (pN zs (j+3))] 59))),(4,(bD 0 g (cL #[.slice a zs.length c,vn (pN zs (j+3+(9+bI zs (j+3))))] 59))),(6,(bD 0 g (cL #[.slice a zs.length c,vn (pN zs (j+3+(9+bI zs (j+3))+(9+bI zs (j+3+(9+bI zs (j+3))))))] 59))),(7,(nw ρ 7 (cL ((kM (bU zs (j+3)).s (bU zs (j+3)).p (bU zs (j+3)).c (bU zs (j+3)).d (((bU zs (j+3)).i:Nat):Int) (((bU zs (j+3)).n:Nat):Int) (.slice (oa ρ 4) (nI (iT zs (j+3))).length (nb ρ 4)) (.bool (pX zs (j+3))))++(kM (bU zs (j+3+(9+bI zs (j+3)))).s (bU zs (j+3+(9+bI zs (j+3)))).p (bU zs (j+3+(9+bI zs (j+3)))).c (bU zs (j+3+(9+bI zs (j+3)))).d (((bU zs (j+3+(9+bI zs (j+3)))).i:Nat):Int) (((bU zs (j+3+(9+bI zs (j+3)))).n:Nat):Int) (.slice (oa ρ 6) (nI (iT zs (j+3+(9+bI zs (j+3))))).length (nb ρ 6)) (.bool (pX zs (j+3+(9+bI zs (j+3))))))) 51))),(9,(nw ρ 9 (cL (iC 2 ((1+dN zs (j+2) 2:Nat):Int) 0 0 (vs (nb ρ 7) 2 2)) 46))),(10,(nw ρ 10 (cL ((pV ([tM (1+dN zs (j+2) 2) zs (j+3) (oa ρ 4) (nb ρ 4) (j+3+(9+bI zs (j+3))) (oa ρ 6) (nb ρ 6) (nb ρ 7)])).toArray++Builtin.zeroCells (Value.cells rQ) (aZ ρ 10)) 46)))]) (fun ρ=>[(4,fun w=>Fi w0 w .u32 (oa ρ 4) (nb ρ 4) (nI (iT zs (j+3)))),(6,fun w=>Fi w0 w .u32 (oa ρ 6) (nb ρ 6) (nI (iT zs (j+3+(9+bI zs (j+3))))))]) (fun ρ=>(fun w=>Is w .i64 a c zs∧Fi w0 w .u32 (oa ρ 4) (nb ρ 4) (nI (iT zs (j+3)))∧Fi w0 w .u32 (oa ρ 6) (nb ρ 6) (nI (iT zs (j+3+(9+bI zs (j+3)))))∧True)) (fun _=>True) (fun _ _ hF hf=>⟨⟨hF.1,hf 4,hf 6,trivial⟩,trivial⟩) (cR [[],[]]<|cX (qW [0] (fun _ _ w hG hK=>range_any g a c zs (j+2) 1 2 (by decide) hz w hK (hG.pK [0] (fun _ hF=>⟨hF.1,trivial⟩))))<|cR [[]]<|cX (qWJ [0] (fun _ _ w hG hK=>fU g a c zs (j+3) hz w hK (hG.pK [0] (fun _ hF=>⟨hF.1,trivial⟩))))<|cR [[]]<|cX (qWJ [0] (fun _ _ w hG hK=>fU g a c zs (j+3+(9+bI zs (j+3))) hz w hK (hG.pK [0] (fun _ hF=>⟨hF.1,trivial⟩))))<|cR [[],[],[]]<|cX (qN (fun ρ ζ=>(vs (ζ.headD 0) ([tM (1+dN zs (j+2) 2) zs (j+3) (oa ρ 4) (nb ρ 4) (j+3+(9+bI zs (j+3))) (oa ρ 6) (nb ρ 6) (nb ρ 7)]).length (([tM (1+dN zs (j+2) 2) zs (j+3) (oa ρ 4) (nb ρ 4) (j+3+(9+bI zs (j+3))) (oa ρ 6) (nb ρ 6) (nb ρ 7)]).length+ζ.tail.headD 0))) (fun ρ ζ=>(cL ((pV ([tM (1+dN zs (j+2) 2) zs (j+3) (oa ρ 4) (nb ρ 4) (j+3+(9+bI zs (j+3))) (oa ρ 6) (nb ρ 6) (nb ρ 7)])).toArray++Builtin.zeroCells (Value.cells rQ) (ζ.tail.headD 0)) 46)) (fun ρ _ _ hG=>sK (ty:=24) (us:=[tM (1+dN zs (j+2) 2) zs (j+3) (oa ρ 4) (nb ρ 4) (j+3+(9+bI zs (j+3))) (oa ρ 6) (nb ρ 6) (nb ρ 7)]) Tryz.underlying24 (dA (sz:=36) (b:=80) (z:=rQ) (by kernel_rfl) rfl) (nP (x:=(tM (1+dN zs (j+2) 2) zs (j+3) (oa ρ 4) (nb ρ 4) (j+3+(9+bI zs (j+3))) (oa ρ 6) (nb ρ 6) (nb ρ 7))) Tryz.underlying24 (hG.kn (g:=nb ρ 9) (o:=(cL (iC 2 ((1+dN zs (j+2) 2:Nat):Int) 0 0 (vs (nb ρ 7) 2 2)) 46)) 73)) (Nat.le_of_ble_eq_true rfl) (Nat.le_of_ble_eq_true rfl) (by decide)))<|jE [[]]) (fun ρ29 _=>?_)
  refine aF (aC (mD [(0,(pt g)),(2,(vs (nb ρ29 10) ([tM (1+dN zs (j+2) 2) zs (j+3) (oa ρ29 4) (nb ρ29 4) (j+3+(9+bI zs (j+3))) (oa ρ29 6) (nb ρ29 6) (nb ρ29 7)]).length (([tM (1+dN zs (j+2) 2) zs (j+3) (oa ρ29 4) (nb ρ29 4) (j+3+(9+bI zs (j+3))) (oa ρ29 6) (nb ρ29 6) (nb ρ29 7)]).length+aZ ρ29 10))),(3,vz)] [(g,(cL #[.slice a zs.length c,vn (pN zs (j+3+(9+bI zs (j+3))+(9+bI zs (j+3+(9+bI zs (j+3))))))] 59)),(nb ρ29 7,(cL ((kM (bU zs (j+3)).s (bU zs (j+3)).p (bU zs (j+3)).c (bU zs (j+3)).d (((bU zs (j+3)).i:Nat):Int) (((bU zs (j+3)).n:Nat):Int) (.slice (oa ρ29 4) (nI (iT zs (j+3))).length (nb ρ29 4)) (.bool (pX zs (j+3))))++(kM (bU zs (j+3+(9+bI zs (j+3)))).s (bU zs (j+3+(9+bI zs (j+3)))).p (bU zs (j+3+(9+bI zs (j+3)))).c (bU zs (j+3+(9+bI zs (j+3)))).d (((bU zs (j+3+(9+bI zs (j+3)))).i:Nat):Int) (((bU zs (j+3+(9+bI zs (j+3)))).n:Nat):Int) (.slice (oa ρ29 6) (nI (iT zs (j+3+(9+bI zs (j+3))))).length (nb ρ29 6)) (.bool (pX zs (j+3+(9+bI zs (j+3))))))) 51)),(nb ρ29 9,(cL (iC 2 ((1+dN zs (j+2) 2:Nat):Int) 0 0 (vs (nb ρ29 7) 2 2)) 46)),(nb ρ29 10,(cL ((pV ([tM (1+dN zs (j+2) 2) zs (j+3) (oa ρ29 4) (nb ρ29 4) (j+3+(9+bI zs (j+3))) (oa ρ29 6) (nb ρ29 6) (nb ρ29 7)])).toArray++Builtin.zeroCells (Value.cells rQ) (aZ ρ29 10)) 46))] ?_))
  exact mR (v:=(vs (nb ρ29 10) ([tM (1+dN zs (j+2) 2) zs (j+3) (oa ρ29 4) (nb ρ29 4) (j+3+(9+bI zs (j+3))) (oa ρ29 6) (nb ρ29 6) (nb ρ29 7)]).length (([tM (1+dN zs (j+2) 2) zs (j+3) (oa ρ29 4) (nb ρ29 4) (j+3+(9+bI zs (j+3))) (oa ρ29 6) (nb ρ29 6) (nb ρ29 7)]).length+aZ ρ29 10))) (fun _ hS=>⟨_,_,[tM (1+dN zs (j+2) 2) zs (j+3) (oa ρ29 4) (nb ρ29 4) (j+3+(9+bI zs (j+3))) (oa ρ29 6) (nb ρ29 6) (nb ρ29 7)],j+3+(9+bI zs (j+3))+(9+bI zs (j+3+(9+bI zs (j+3)))),rfl,hS.below,hS.knows [1,0,0,0],lX (fun b hb=>hb) (hS.new1 rfl rfl (.tail _ (.tail _ (.head _)))) (At.fresh (z:=rQ) rfl ([tM (1+dN zs (j+2) 2) zs (j+3) (oa ρ29 4) (nb ρ29 4) (j+3+(9+bI zs (j+3))) (oa ρ29 6) (nb ρ29 6) (nb ρ29 7)]) (aZ ρ29 10)) (kF ⟨⟨dS (z:=2) (by decide),rng_nat (by have:=iG zs (j+2) (by decide:0<2);omega),(show (0:Nat)<4294967296 by decide),iL⟩,kf2 (fun b hb=>hb) (hS.new1 rfl rfl (.head _)) (hS.facts.now.2.1.pers (fun b hb=>hb)) (lN zs (j+3) _ _) (hS.facts.now.2.2.1.pers (fun b hb=>hb)) (lN zs (j+3+(9+bI zs (j+3))) _ _),soft_2 rfl (gX zs (j+3) _ _) (gX zs (j+3+(9+bI zs (j+3))) _ _)⟩) (Nat.le_of_ble_eq_true rfl) (Nat.le_of_ble_eq_true rfl)⟩)
 refine sS Tryz.f6 8 [0,2,3,49] [] (fun _=>[pt g,vn (dN zs (j+1) 4),vF,vF,undef,undef,undef,vF]) (fun _=>[(1,(bD 0 g (cL #[.slice a zs.length c,vn (pN zs (j+2))] 59)))]) (cR [[]]<|cX (qW [0] (fun _ _ w hG hK=>next_any g a c zs (j+1) 4 (by decide) hz w hK (hG.pK [0] (fun _ hF=>⟨hF.1,trivial⟩))))<|cA (fun _=>vF) (fun _=>congrArg Value.bool hb9)<|jE [[],[],[],[],[]]) (fun _=>?_)
 refine oN ?_
 refine aG (aA ?_)
 refine iZ Tryz.f6 8 [2] [] (fun ρ=>let qa:=[tK zs (j+2) (oa ρ 2) (nb ρ 2) (nb ρ 3)];let qb:=vs (nb ρ 6) qa.length (qa.length+aZ ρ 6);[vz,pt g,.agg (kM (bU zs (j+2)).s (bU zs (j+2)).p (bU zs (j+2)).c (bU zs (j+2)).d (((bU zs (j+2)).i:Nat):Int) (((bU zs (j+2)).n:Nat):Int) (.slice (oa ρ 2) (nI (iT zs (j+2))).length (nb ρ 2)) (.bool (pX zs (j+2)))),vs (nb ρ 3) 1 1,.agg (iC 1 0 0 0 (vs (nb ρ 3) 1 1)),vs (nb ρ 5) 1 1,qb,qb]) (fun ρ=>[(2,(bD 0 g (cL #[.slice a zs.length c,vn (pN zs (j+2+(9+bI zs (j+2))))] 59))),(3,(nw ρ 3 (cL (kM (bU zs (j+2)).s (bU zs (j+2)).p (bU zs (j+2)).c (bU zs (j+2)).d (((bU zs (j+2)).i:Nat):Int) (((bU zs (j+2)).n:Nat):Int) (.slice (oa ρ 2) (nI (iT zs (j+2))).length (nb ρ 2)) (.bool (pX zs (j+2)))) 51))),(5,(nw ρ 5 (cL (iC 1 0 0 0 (vs (nb ρ 3) 1 1)) 46))),(6,(nw ρ 6 (cL ((pV ([tK zs (j+2) (oa ρ 2) (nb ρ 2) (nb ρ 3)])).toArray++Builtin.zeroCells (Value.cells rQ) (aZ ρ 6)) 46)))]) (fun ρ=>[(2,fun w=>Fi w0 w .u32 (oa ρ 2) (nb ρ 2) (nI (iT zs (j+2))))]) (fun ρ=>(fun w=>Is w .i64 a c zs∧Fi w0 w .u32 (oa ρ 2) (nb ρ 2) (nI (iT zs (j+2)))∧True)) (fun _=>True) (fun _ _ hF hf=>⟨⟨hF.1,hf 2,trivial⟩,trivial⟩) (cR [[],[]]<|cX (qWJ [0] (fun _ _ w hG hK=>fU g a c zs (j+2) hz w hK (hG.pK [0] (fun _ hF=>⟨hF.1,trivial⟩))))<|cR [[],[],[]]<|cX (qN (fun ρ ζ=>(vs (ζ.headD 0) ([tK zs (j+2) (oa ρ 2) (nb ρ 2) (nb ρ 3)]).length (([tK zs (j+2) (oa ρ 2) (nb ρ 2) (nb ρ 3)]).length+ζ.tail.headD 0))) (fun ρ ζ=>(cL ((pV ([tK zs (j+2) (oa ρ 2) (nb ρ 2) (nb ρ 3)])).toArray++Builtin.zeroCells (Value.cells rQ) (ζ.tail.headD 0)) 46)) (fun ρ _ _ hG=>sK (ty:=24) (us:=[tK zs (j+2) (oa ρ 2) (nb ρ 2) (nb ρ 3)]) Tryz.underlying24 (dA (sz:=36) (b:=80) (z:=rQ) (by kernel_rfl) rfl) (nP (x:=(tK zs (j+2) (oa ρ 2) (nb ρ 2) (nb ρ 3))) Tryz.underlying24 (hG.kn (g:=nb ρ 5) (o:=(cL (iC 1 0 0 0 (vs (nb ρ 3) 1 1)) 46)) 41)) (Nat.le_of_ble_eq_true rfl) (Nat.le_of_ble_eq_true rfl) (by decide)))<|jE [[]]) (fun ρ31 _=>?_)
 refine aF (mD [(2,(vs (nb ρ31 6) ([tK zs (j+2) (oa ρ31 2) (nb ρ31 2) (nb ρ31 3)]).length (([tK zs (j+2) (oa ρ31 2) (nb ρ31 2) (nb ρ31 3)]).length+aZ ρ31 6)))] [(g,(cL #[.slice a zs.length c,vn (pN zs (j+2+(9+bI zs (j+2))))] 59)),(nb ρ31 3,(cL (kM (bU zs (j+2)).s (bU zs (j+2)).p (bU zs (j+2)).c (bU zs (j+2)).d (((bU zs (j+2)).i:Nat):Int) (((bU zs (j+2)).n:Nat):Int) (.slice (oa ρ31 2) (nI (iT zs (j+2))).length (nb ρ31 2)) (.bool (pX zs (j+2)))) 51)),(nb ρ31 5,(cL (iC 1 0 0 0 (vs (nb ρ31 3) 1 1)) 46)),(nb ρ31 6,(cL ((pV ([tK zs (j+2) (oa ρ31 2) (nb ρ31 2) (nb ρ31 3)])).toArray++Builtin.zeroCells (Value.cells rQ) (aZ ρ31 6)) 46))] ?_)
 exact mR (v:=(vs (nb ρ31 6) ([tK zs (j+2) (oa ρ31 2) (nb ρ31 2) (nb ρ31 3)]).length (([tK zs (j+2) (oa ρ31 2) (nb ρ31 2) (nb ρ31 3)]).length+aZ ρ31 6))) (fun _ hS=>⟨_,_,[tK zs (j+2) (oa ρ31 2) (nb ρ31 2) (nb ρ31 3)],j+2+(9+bI zs (j+2)),rfl,hS.below,hS.knows [1,0,0,0],lX (fun b hb=>hb) (hS.new1 rfl rfl (.tail _ (.tail _ (.head _)))) (At.fresh (z:=rQ) rfl ([tK zs (j+2) (oa ρ31 2) (nb ρ31 2) (nb ρ31 3)]) (aZ ρ31 6)) (kF ⟨⟨dS (z:=1) (by decide),dS (z:=0) (by decide),(show (0:Nat)<4294967296 by decide),iL⟩,kf1 (fun b hb=>hb) (hS.new1 rfl rfl (.head _)) (hS.facts.now.2.1.pers (fun b hb=>hb)) (lN zs (j+2) _ _),wO rfl (show (1:Int)≠2 by decide) (gX zs (j+2) _ _)⟩) (Nat.le_of_ble_eq_true rfl) (Nat.le_of_ble_eq_true rfl)⟩)
theorem mterms_any (g:Nat) (a:Option Addr) (c:Nat) (zs:List Int) (j:Nat) (hz:Z64 zs) (w0:World) (hK:Knows [(g,(.cells #[.slice a zs.length c,.int .i64 ((pN zs j:Nat):Int)] 59 (0,0)))] w0) (hP:dL (fun b=>b∈([(g,(.cells #[.slice a zs.length c,.int .i64 ((pN zs j:Nat):Int)] 59 (0,0)))]:List (Nat × Obj)).map (·.1)) (fun w=>Is w .i64 a c zs∧True) w0):Calls Tryz.prog 6 #[pt g] w0 (fun ε w'=>∃ α κ τs j',ε=.returned (.slice α (List.length τs) κ)∧nN (fun b=>b∈([(g,(.cells #[.slice a zs.length c,.int .i64 ((pN zs j:Nat):Int)] 59 (0,0)))]:List (Nat × Obj)).map (·.1)) w0 w'∧Knows [(g,(.cells #[.slice a zs.length c,.int .i64 ((pN zs j':Nat):Int)] 59 (0,0)))] w'∧dL (fun b=>b<w0.heap.size) (fun w=>TmN w α κ τs) w'):=mtermsw_any g a c zs j _ hz (hs2_lt (Nat.lt_of_lt_of_le (iG _ _ (by decide)) (by decide)) (Nat.lt_of_lt_of_le (iG _ _ (by decide)) (by decide))) rfl w0 hK hP
def dO.ix (p:dO) (i:Nat):List Nat:=if p.wd=true then p.ps++[i] else p.ps
def uU (i:Nat):List dO→Int
  | []=>0
  | p::r=>if nM p.k (p.ix i)=0 then uU i r else nM p.k (p.ix i)
def dO.pn (i:Nat) (p:dO):Nat:=(iQ p.k (p.ix i)).p
def xE (i:Nat) (ks:List dO):List Nat:=ks.map (dO.pn i)
def aK (ts:List bW):List dO:=ts.flatMap bW.ks
def kZ (ts:List bW) (z:Int):Int:=if xW ts=true then (if 0≤z∧z<1000 then uU z.toNat (aK ts) else 5) else 260
def gV (ts:List bW) (z:Int):List Nat:=if kZ ts z=0 then xE z.toNat (aK ts) else []
def bQ (d:List UInt8):List UInt8:=([ob 1,ob ((d.length:Nat):Int)]:List UInt8)++d
def itF:Nat→Nat→List UInt8
  | 0,_=>[]
  | f+1,n=>if n=0 then [] else ob ((n%256:Nat):Int)::itF f (n / 2^8)
def iU (n:Nat):List UInt8:=itF 4 n
def sgB (p:Nat):List UInt8:=bQ (hL p)++([10]:List UInt8)
def mlB (m:Int) (ns:List Nat):List UInt8:=ns.flatMap (fun p=>bQ (hL p))++([ob 11,ob m,ob ((ns.length:Nat):Int)]:List UInt8)
def afB (n:Nat) (r:List UInt8):List UInt8:=(bQ (iU n)++([12,3]:List UInt8))++r
def olB (n:Nat) (r:List UInt8):List UInt8:=(bQ (iU n)++([13,3]:List UInt8))++r
def hsB (h:Nat) (r:List UInt8):List UInt8:=((([8]:List UInt8)++bQ (hL h))++([5,7]:List UInt8))++r
def eiB (a b:List UInt8):List UInt8:=(((([14]:List UInt8)++a)++([15]:List UInt8))++b)++([16]:List UInt8)
structure Mk where
  ta:Option Addr
  tc:Nat
  ts:List bW
  ka:Option Addr
  kc:Nat
  ns:List Nat
def Mk.step (s:Mk) (n:Nat):Mk:=⟨if s.tc=1 then s.ta else s.ta.map (·.add (1*36)),s.tc-1,s.ts.tail,if s.kc=n then s.ka else s.ka.map (·.add (n*4)),s.kc-n,s.ns.drop n⟩
def Mk.fst (s:Mk):bW:=gT s.ts 0
def Mk.go (s:Mk):Mk:=s.step s.fst.ks.length
def Mk.can (s:Mk):Bool:=decide (0<s.ts.length)&&(s.fst.fd&&decide (s.fst.ks.length≤s.ns.length))
def nx : Nat → Mk → Option (List UInt8 × Mk)
  | 0,_=>none
  | f + 1, s => if s.can = false then none else
    if s.fst.kd=1 then some (sgB (s.ns.getD 0 0),s.go) else
    if s.fst.kd=2 then some (mlB s.fst.m (s.ns.take s.fst.ks.length),s.go) else
    match nx f s.go with
    | none=>none
    | some (a, s1) =>
      if s.fst.kd=3 then some (afB s.fst.nu a,s1) else
      if s.fst.kd=4 then some (olB s.fst.nu a,s1) else
      if s.fst.kd=5 then some (hsB s.fst.h a,s1) else
      if s.fst.kd=6 then (match nx f s1 with
        | none=>none
        | some (b,s2)=>some (eiB a b,s2)) else none
def bW.sh (t:bW):Int × Int × Nat × Nat × Nat:=(t.kd,t.m,t.nu,t.h,t.ks.length)
def Mk.sim (s t:Mk):Prop:=s.ts.map bW.sh=t.ts.map bW.sh∧s.ns=t.ns
theorem sh_get {l l':List bW} (h:l.map bW.sh=l'.map bW.sh) (j:Nat):(gT l j).sh=(gT l' j).sh:=by
  have g:∀ m:List bW,(gT m j).sh=(m.map bW.sh).getD j (default:bW).sh:=fun m=>by
    unfold gT
    rw [List.getD_eq_getElem?_getD,List.getD_eq_getElem?_getD,List.getElem?_map]
    cases m[j]? <;> rfl
  rw [g,g,h]
theorem sh_parts {t t':bW} (h:t.sh=t'.sh):t.kd=t'.kd∧t.m=t'.m∧t.nu=t'.nu∧t.h=t'.h∧t.ks.length=t'.ks.length:=by
  unfold bW.sh at h
  simpa only [Prod.mk.injEq] using h
theorem Mk.sim_go {s t:Mk} (h:s.sim t):s.go.sim t.go:=by
  have e:=(sh_parts (sh_get h.1 0)).2.2.2.2
  refine ⟨?_,?_⟩
  · show s.ts.tail.map bW.sh = t.ts.tail.map bW.sh
    rw [List.map_tail,List.map_tail,h.1]
  · show s.ns.drop _ = t.ns.drop _
    rw [h.2];unfold Mk.fst;rw [e]
theorem nx_sim:∀ (f:Nat) (s t:Mk),s.sim t→(nx f s=none∧nx f t=none)∨∃ b s' t',nx f s=some (b,s')∧nx f t=some (b,t')∧s'.sim t'
  | 0,_,_,_=>Or.inl ⟨rfl,rfl⟩
  | f + 1, s, t, h => by
    have hl:s.ts.length=t.ts.length:=by have:=congrArg List.length h.1;simpa using this
    obtain ⟨e1,e2,e3,e4,e5⟩:=sh_parts (sh_get h.1 0)
    have hc:s.can=t.can:=by unfold Mk.can bW.fd Mk.fst;rw [hl,e1,e2,e3,e4,e5,h.2]
    unfold nx
    rw [hc,h.2]
    unfold Mk.fst
    rw [e1,e2,e3,e4,e5]
    by_cases c0:t.can=false
    · rw [if_pos c0,if_pos c0];exact Or.inl ⟨rfl,rfl⟩
    rw [if_neg c0,if_neg c0]
    by_cases c1:(gT t.ts 0).kd=1
    · rw [if_pos c1,if_pos c1];exact Or.inr ⟨_,_,_,rfl,rfl,Mk.sim_go h⟩
    rw [if_neg c1,if_neg c1]
    by_cases c2:(gT t.ts 0).kd=2
    · rw [if_pos c2,if_pos c2];exact Or.inr ⟨_,_,_,rfl,rfl,Mk.sim_go h⟩
    rw [if_neg c2,if_neg c2]
    rcases nx_sim f s.go t.go (Mk.sim_go h) with ⟨ha,hb⟩ | ⟨b,s',t',ha,hb,h'⟩
    · rw [ha,hb];exact Or.inl ⟨rfl,rfl⟩
    rw [ha,hb]
    by_cases c3:(gT t.ts 0).kd=3
    · simp only [if_pos c3];exact Or.inr ⟨_,_,_,rfl,rfl,h'⟩
    simp only [if_neg c3]
    by_cases c4:(gT t.ts 0).kd=4
    · simp only [if_pos c4];exact Or.inr ⟨_,_,_,rfl,rfl,h'⟩
    simp only [if_neg c4]
    by_cases c5:(gT t.ts 0).kd=5
    · simp only [if_pos c5];exact Or.inr ⟨_,_,_,rfl,rfl,h'⟩
    simp only [if_neg c5]
    by_cases c6:(gT t.ts 0).kd=6
    · simp only [if_pos c6]
      rcases nx_sim f s' t' h' with ⟨ha,hb⟩ | ⟨b2,s2,t2,ha,hb,h2⟩
      · rw [ha,hb];exact Or.inl ⟨rfl,rfl⟩
      · rw [ha,hb];exact Or.inr ⟨_,_,_,rfl,rfl,h2⟩
    · exact Or.inl ⟨if_neg c6,if_neg c6⟩
def nK:List bW→Nat
  | []=>0
  | t::r=>t.ks.length+nK r
theorem nK_aK:∀ ts:List bW,(aK ts).length=nK ts
  | []=>rfl
  | t::r=>by show (t.ks++aK r).length=t.ks.length+nK r;rw [List.length_append,nK_aK r]
theorem nx_ok : ∀ (f : Nat) (k : Int) (s : Mk), s.ts.length ≤ f → 1 ≤ k → vG k s.ts = true → s.ts.all bW.fd = true → s.ns.length = nK s.ts →
    ∃ b s',nx f s=some (b,s')∧vG (k-1) s'.ts=true∧s'.ts.all bW.fd=true∧s'.ns.length=nK s'.ts∧s'.ts.length<s.ts.length
  | 0, k, s, hl, hk, hw, _, _ => by
    rw [List.eq_nil_of_length_eq_zero (Nat.le_zero.1 hl)] at hw
    have:=of_decide_eq_true (show decide (k=0)=true from hw)
    omega
  | f + 1, k, s, hl, hk, hw, hf, hn => by
    cases e:s.ts with
    | nil =>
      rw [e] at hw
      have:=of_decide_eq_true (show decide (k=0)=true from hw)
      omega
    | cons t r =>
      rw [e] at hw hf hn hl
      have hk0: ¬ (k=0∨nO t.kd<0):=fun q=>by simp only [vG,if_pos q] at hw;exact absurd hw (by decide)
      simp only [vG,if_neg hk0] at hw
      rw [List.all_cons,Bool.and_eq_true] at hf
      have hft:s.fst=t:=by unfold Mk.fst;rw [e];rfl
      have hgo:s.go.ts=r:=by show s.ts.tail=r;rw [e];rfl
      have hgn:s.go.ns.length=nK r:=by
        show (s.ns.drop s.fst.ks.length).length=nK r
        rw [List.length_drop,hft,hn];show t.ks.length+nK r-t.ks.length=nK r;omega
      have hc:s.can=true:=by
        unfold Mk.can
        rw [hft,hf.1,e,hn,decide_eq_true (show 0<(t::r).length by simp),decide_eq_true (show t.ks.length≤nK (t::r) from Nat.le_add_right _ _)]
        rfl
      have hlr:r.length≤f:=by simpa using hl
      unfold nx
      rw [hc,hft,if_neg (by decide)]
      by_cases c1:t.kd=1
      · rw [if_pos c1]
        rw [show nO t.kd=0 by rw [c1];rfl] at hw
        exact ⟨_,_,rfl,by rw [hgo];exact hw,by rw [hgo];exact hf.2,by rw [hgn,hgo],by rw [hgo];exact Nat.lt_succ_self _⟩
      rw [if_neg c1]
      by_cases c2:t.kd=2
      · rw [if_pos c2]
        rw [show nO t.kd=0 by rw [c2];rfl] at hw
        exact ⟨_,_,rfl,by rw [hgo];exact hw,by rw [hgo];exact hf.2,by rw [hgn,hgo],by rw [hgo];exact Nat.lt_succ_self _⟩
      rw [if_neg c2]
      by_cases c6:t.kd=6
      · rw [show nO t.kd = 2 by rw [c6]; rfl] at hw
        obtain ⟨a,s1,h1,w1,f1,n1,l1⟩:=nx_ok f (k+(2-1)) s.go (by rw [hgo];exact hlr) (by omega) (by rw [hgo];exact hw) (by rw [hgo];exact hf.2) (by rw [hgn,hgo])
        rw [hgo] at l1
        obtain ⟨b,s2,h2,w2,f2,n2,l2⟩:=nx_ok f (k+(2-1)-1) s1 (by omega) (by omega) w1 f1 n1
        rw [h1]
        simp only [if_neg (show ¬ t.kd=3 by omega),if_neg (show ¬ t.kd=4 by omega),if_neg (show ¬ t.kd=5 by omega),if_pos c6]
        rw [h2]
        exact ⟨_,_,rfl,by rw [← w2];congr 1;omega,f2,n2,by rw [List.length_cons];omega⟩
      have c345:t.kd=3∨t.kd=4∨t.kd=5:=by
        have: ¬ nO t.kd<0:=fun q=>hk0 (Or.inr q)
        unfold nO at this
        by_cases q:t.kd=3∨t.kd=4∨t.kd=5
        · exact q
        · rw [if_neg (by omega),if_neg q,if_neg c6] at this;exact absurd (by decide) this
      rw [show nO t.kd=1 by unfold nO;rw [if_neg (by omega),if_pos c345]] at hw
      obtain ⟨a,s1,h1,w1,f1,n1,l1⟩:=nx_ok f k s.go (by rw [hgo];exact hlr) hk (by rw [hgo,← hw];congr 1;omega) (by rw [hgo];exact hf.2) (by rw [hgn,hgo])
      rw [hgo] at l1
      rw [h1]
      by_cases c3:t.kd=3
      · simp only [if_pos c3];exact ⟨_,_,rfl,w1,f1,n1,by rw [List.length_cons];omega⟩
      simp only [if_neg c3]
      by_cases c4:t.kd=4
      · simp only [if_pos c4];exact ⟨_,_,rfl,w1,f1,n1,by rw [List.length_cons];omega⟩
      simp only [if_neg c4,if_pos (show t.kd=5 by omega)]
      exact ⟨_,_,rfl,w1,f1,n1,by rw [List.length_cons];omega⟩
def nxB (ts:List bW) (ns:List Nat):List UInt8:=((nx 8 ⟨none,0,ts,none,0,ns⟩).map (·.1)).getD []
def xP (ts:List bW) (z:Int):List UInt8:=nxB ts (gV ts z)
def exE (ts:List bW) (z:Int):Int:=if kZ ts z=0 then (if 520<(xP ts z).length then 4 else 0) else kZ ts z
def wG (ts:List bW) (z:Int):List UInt8:=if exE ts z=0 then xP ts z else []
theorem ky_valid {ts:List bW} {z:Int} (h:kZ ts z=0):xW ts=true:=by
  unfold kZ at h
  by_cases q:xW ts=true
  · exact q
  · rw [if_neg q] at h;exact absurd h (by decide)
theorem vl_get {ts:List bW} (h:xW ts=true):(1≤ts.length∧ts.length≤8)∧vG 1 ts=true∧ts.all bW.fd=true∧ts.all bW.vk=true:=by
  unfold xW at h
  simpa only [Bool.and_eq_true,decide_eq_true_eq] using h
theorem nx_go {ts:List bW} {z:Int} (h:kZ ts z=0) (a:Option Addr) (c:Nat) (b:Option Addr) (d:Nat):∃ s',nx 8 ⟨a,c,ts,b,d,gV ts z⟩=some (xP ts z,s'):=by
  obtain ⟨hl,hw,hf,_⟩:=vl_get (ky_valid h)
  have hn:(gV ts z).length=nK ts:=by unfold gV;rw [if_pos h];unfold xE;rw [List.length_map,nK_aK]
  obtain ⟨x,s',hx,_⟩:=nx_ok 8 1 ⟨a,c,ts,b,d,gV ts z⟩ hl.2 (by decide) hw hf hn
  rcases nx_sim 8 ⟨a,c,ts,b,d,gV ts z⟩ ⟨none,0,ts,none,0,gV ts z⟩ ⟨rfl,rfl⟩ with ⟨ha,_⟩ | ⟨y,s2,t2,ha,hb,_⟩
  · rw [hx] at ha;exact absurd ha (by simp)
  · refine ⟨s2, ?_⟩
    rw [ha]
    show some (y,s2)=some (nxB ts (gV ts z),s2)
    unfold nxB
    rw [hb];rfl
def dO.er (p:dO):dO:=⟨p.k,p.ps,p.wd,none,0⟩
def dO.neu (p:dO):dO:=⟨p.k.neu,p.ps,p.wd,none,0⟩
def bW.er (t:bW):bW:=⟨t.kd,t.m,t.nu,t.h,t.ks.map dO.er,none,0⟩
def bW.neu (t:bW):bW:=⟨t.kd,t.m,t.nu,t.h,t.ks.map dO.neu,none,0⟩
section
variable {g : dO → dO} {G : bW → bW} (hG : ∀ t, G t = ⟨t.kd, t.m, t.nu, t.h, t.ks.map g, none, 0⟩)
include hG
end
def Neu (ts us:List bW):Prop:=us.map bW.er=ts.map bW.neu
structure RowK (α:Type) (sz:Nat) where
  f:α→List Value
  len:∀ x,(f x).length=sz
  one:∀ x,∀ u∈f x,u.oneCell'=true
section
variable {α : Type} {sz : Nat} (K : RowK α sz)
def RowK.r (l:List α):List Value:=l.flatMap K.f
theorem RowK.r_len (l:List α):(K.r l).length=l.length*sz:=yB K.len l
theorem RowK.r_one (l:List α):∀ u∈K.r l,u.oneCell'=true:=by
  intro u hu
  obtain ⟨x,_,hx⟩:=List.mem_flatMap.1 hu
  exact K.one x u hx
theorem RowK.r_app (l m:List α):K.r (l++m)=K.r l++K.r m:=List.flatMap_append ..
def RowK.A (C:Array Value) (l:List α) (c:Nat):Prop:=Av C sz l.length (K.r l) c
variable {K}
theorem RowK.A.app {C:Array Value} {l m:List α} {c:Nat} (h:Av C sz (l.length+m.length) (K.r l++K.r m) c):K.A C (l++m) c:=by
  unfold RowK.A
  rw [List.length_append,K.r_app];exact h
theorem RowK.A.fresh {z:Value} (hz:z.cells.size=sz) (l:List α) (k:Nat):K.A ((K.r l).toArray++Builtin.zeroCells z.cells k) l (l.length+k):=Av.fresh hz (K.r_len l) k
theorem RowK.src {P:Program} {w:World} {g c:Nat} {l:List α} {T tx e':TypeId} {fr:Nat × Nat} (hk:P.underlying tx=some (.slice e')) (hb:w.heap[g]? = some (.cells (K.r l).toArray T fr)):Src P sz tx (.slice (some ⟨g,0,none⟩) l.length c) l.length (K.r l) w :=
  nX hk hb (K.r_len l) (List.all_eq_true.2 (K.r_one l))
variable {P : Program} {t e : TypeId} {b : Nat} {z : Value}
theorem appG_nil {w:World} {ty tx:TypeId} (ht:P.underlying t=some (.slice e)) (hi:wM P e sz b z) {x:Value} {us:List α} (hs:Src P sz tx x us.length (K.r us) w) (h0:0<us.length) (hm:us.length≤1000) (hb:b≤1000) :
    ∃ k w',(do pure (Next.value (← Builtin.append_ #[t,tx] ty #[.slice none 0 0,x])):Sem Next).run P w=.ok (.value (.slice (some ⟨([w.heap.size,k]:List Nat).headD 0,0,none⟩) us.length (us.length+([w.heap.size,k]:List Nat).tail.headD 0))) w'∧Grew w w' (.cells ((K.r us).toArray++Builtin.zeroCells z.cells (([w.heap.size,k]:List Nat).tail.headD 0)) e (0,0)) :=
  uV ht hi hs h0 (by omega) (Nat.le_trans (Nat.mul_le_mul hm hb) (by decide))
theorem wB {w:World} {ty tx:TypeId} (ht:P.underlying t=some (.slice e)) (hi:wM P e sz b z) {g c:Nat} {C:Array Value} {x:Value} {ts us:List α} (hA:K.A C ts c) (hs:Src P sz tx x us.length (K.r us) w) (hm:ts.length+us.length≤1000) (hb:b≤1000) (hg:w.heap[g]? = some (.cells C e (0,0))) :
    ∃ r w',(do pure (Next.value (← Builtin.append_ #[t,tx] ty #[.slice (some ⟨g,0,none⟩) ts.length c,x])):Sem Next).run P w=.ok (.value (.slice (some ⟨r.n.headD 0,0,none⟩) (ts++us).length (r.n.tail.headD 0))) w'∧K.A (uG r) (ts++us) (r.n.tail.headD 0)∧Moved w w' g (r.n.headD 0) (.cells (uG r) e (0,0)):=by
  obtain ⟨r,w',h1,h2,h3⟩:=sN (ty:=ty) ht hi hA hs (by omega) (Nat.le_trans (Nat.mul_le_mul hm hb) (by decide)) hg
  refine ⟨r,w',?_,RowK.A.app h2,h3⟩
  rw [List.length_append];exact h1
end
def kU:RowK Nat 4:=⟨fun n=>(cU n).toList,fun n=>by simp,fun n=>cU_one n⟩
def kI:RowK Nat 1:=⟨fun n=>[.int .u32 ((n:Nat):Int)],fun _=>rfl,fun n u hu=>by rw [List.mem_singleton.1 hu];rfl⟩
theorem RowK.A.empty {α:Type} {sz:Nat} {K:RowK α sz}:K.A #[] [] 0:=⟨rfl,(Nat.zero_mul sz).symm,Nat.le_refl _,(Nat.zero_mul sz).symm⟩
theorem src_u1 {P:Program} {w:World} {g n:Nat} {T tx e':TypeId} {fr:Nat × Nat} (hk:P.underlying tx=some (.slice e')) (hb:w.heap[g]? = some (.cells (cU n) T fr)):Src P 4 tx (.slice (some ⟨g,0,none⟩) 1 1) [n].length (kU.r [n]) w :=
  RowK.src (K:=kU) (l:=[n]) (T:=T) (fr:=fr) hk (by rw [hb];simp [RowK.r,kU])
theorem tJ {P:Program} {w:World} {g n:Nat} {T tx e':TypeId} {fr:Nat × Nat} (hk:P.underlying tx=some (.slice e')) (hb:w.heap[g]? = some (.cells #[.int .u32 ((n:Nat):Int)] T fr)):Src P 1 tx (.slice (some ⟨g,0,none⟩) 1 1) [n].length (kI.r [n]) w :=
  RowK.src (K:=kI) (l:=[n]) hk hb
theorem kI_iv:∀ ps:List Nat,iv .u32 (nI ps)=kI.r ps
  | []=>rfl
  | p :: r => by
    show Value.int .u32 ((p:Nat):Int)::iv .u32 (nI r)=.int .u32 ((p:Nat):Int)::kI.r r
    rw [kI_iv r]
theorem src_is {P : Program} {w : World} {a : Option Addr} {c : Nat} {ps : List Nat} {tx e' : TypeId} (hk : P.underlying tx = some (.slice e')) (h : Is w .u32 a c (nI ps)) : Src P 1 tx (.slice a (nI ps).length c) ps.length (kI.r ps) w := by
  rw [fZ]
  have hr:=h.rows
  rw [kI_iv] at hr
  cases a with
  | none =>
    have h0:ps=[]:=by
      rcases hr with h0 | ⟨p,hp,_⟩
      · have := congrArg List.length h0
        rw [kI.r_len] at this
        exact List.eq_nil_of_length_eq_zero (by simp only [List.length_nil] at this;omega)
      · exact absurd hp (by simp)
    subst h0
    exact Src.ofNil w hk c
  | some p =>
    refine Src.ofSlice w hk p ps.length c (kI.r ps) (kI.r_len ps) ?_ (kI.r_one ps)
    intro j u hu
    rcases hr with h0 | ⟨p',hp,hh⟩
    · rw [h0] at hu;simp at hu
    · obtain rfl : p = p' := by simpa using hp
      exact hh j u hu
theorem Is.of_kI {w:World} {g c:Nat} {C:Array Value} {T:TypeId} {fr:Nat × Nat} {ps:List Nat} (hb:w.heap[g]? = some (.cells C T fr)) (hA:kI.A C ps c) (hm:ps.length≤140737488351232):Is w .u32 (some ⟨g,0,none⟩) c (nI ps) :=
  Is.of_av hb (by rw [kI_iv,fZ];exact hA) (by rw [fZ];exact hm)
section
variable {P : Program} {t e : TypeId} {b : Nat} {z : Value}
theorem appI_nil {w:World} {ty tx:TypeId} (ht:P.underlying t=some (.slice e)) (hi:wM P e 1 b z) {x:Value} {us:List Nat} (hs:Src P 1 tx x us.length (kI.r us) w) (h0:0<us.length) (hm:us.length≤1000) (hb:b≤1000) :
    ∃ k w',(do pure (Next.value (← Builtin.append_ #[t,tx] ty #[.slice none 0 0,x])):Sem Next).run P w=.ok (.value (.slice (some ⟨([w.heap.size,k]:List Nat).headD 0,0,none⟩) (nI us).length ((nI us).length+([w.heap.size,k]:List Nat).tail.headD 0))) w'∧Grew w w' (.cells ((kI.r us).toArray++Builtin.zeroCells z.cells (([w.heap.size,k]:List Nat).tail.headD 0)) e (0,0)):=by
  rw [fZ];exact appG_nil (K:=kI) ht hi hs h0 hm hb
theorem lT {w:World} {ty tx:TypeId} (ht:P.underlying t=some (.slice e)) (hi:wM P e 1 b z) {g c:Nat} {C:Array Value} {x:Value} {ts us:List Nat} (hA:kI.A C ts c) (hs:Src P 1 tx x us.length (kI.r us) w) (hm:ts.length+us.length≤1000) (hb:b≤1000) (hg:w.heap[g]? = some (.cells C e (0,0))) :
    ∃ r w',(do pure (Next.value (← Builtin.append_ #[t,tx] ty #[.slice (some ⟨g,0,none⟩) (nI ts).length c,x])):Sem Next).run P w=.ok (.value (.slice (some ⟨r.n.headD 0,0,none⟩) (nI (ts++us)).length (r.n.tail.headD 0))) w'∧kI.A (uG r) (ts++us) (r.n.tail.headD 0)∧Moved w w' g (r.n.headD 0) (.cells (uG r) e (0,0)):=by
  rw [fZ,fZ];exact wB (K:=kI) ht hi hA hs hm hb hg
end
section
variable {P : Program} {ops : Array Oper} {D : List Nat} {l : List (Nat × Value)} {w0 : Base} {h : List (Nat × Obj)} {F0 : World → Prop}
variable {vals : (Nat → bH) → Nat → Value} {effs : (Nat → bH) → Nat → Eff} {fact : (Nat → bH) → Nat → World → Prop}
theorem o_callM (i:Nat) (f:FuncId) (args:(Nat→bH)→Array Value) (v:(Nat→bH)→List Nat→Value) (ob:(Nat→bH)→List Nat→Obj)
    (hc:∀ ρ z,eU P ops D l (vals ρ) i z=some (.enter f (args ρ),[],[]))
    (hv:∀ ρ z,vals (upd ρ i { n:=z}) i=v ρ z) (he:∀ ρ z,effs (upd ρ i { n:=z}) i={ news:=[(z.headD 0,ob ρ z)]}) (ht:∀ ρ w,fact ρ i w)
    (hf:∀ ρ T w,Given ops D w0 h F0 effs fact i ρ T w→Calls P f (args ρ) w (fun e w'=>∃ z,e=.returned (v ρ z)∧Below w.heap.size w w'∧w.heap.size≤z.headD 0∧w'.heap[z.headD 0]? = some (ob ρ z))):jV P ops D l w0 h F0 vals effs fact i:=by
  have key:∀ ρ z,((ops[i]?).isSome=true∧fM (vals ρ) (opAt ops i)=true)∧kH P (execOp (dC ops D l (vals ρ) i) (opAt ops i)) [] [] z=some (.enter f (args ρ),[],[]):=by
    intro ρ z
    have h1:=hc ρ z
    unfold eU at h1
    split at h1
    · rename_i hb
      simp only [Bool.and_eq_true] at hb
      exact ⟨hb,h1⟩
    · exact absurd h1 (by simp)
  intro o ho ρ T w hG
  have hoe:=eY (key ρ []).1.1
  rw [ho] at hoe
  obtain rfl:o=opAt ops i:=by simpa using hoe
  rw [if_pos (key ρ []).1.2]
  obtain ⟨w1,h1,_,_,h4,_,_⟩:=kQ (P:=P) (execOp (dC ops D l (vals ρ) i) (opAt ops i)) [] [] w _ _ _ (by intro y hy;simp at hy) (by simp) ((key ρ _).2) trivial
  have hb:Below w.heap.size w w1:=⟨h4.os,h4.tape,h4.output,h4.size,fun k hk=>h4.block k hk (by simp)⟩
  have hheap:∀ b,b<w.heap.size→w1.heap[b]? = w.heap[b]? := fun b hb'=>hb.block b hb'
  have hG1:Given ops D w0 h F0 effs fact i ρ T w1:=by
    have tr:∀ {F:World→Prop},dL T F w→dL T F w1:=by
      rintro F ⟨S,s1,s2⟩
      refine ⟨S,fun b hb'=>⟨Nat.lt_of_lt_of_le (s1 b hb').1 hb.size,(s1 b hb').2⟩,fun w' hw=>s2 w' (fun b hb'=>?_)⟩
      rw [hw b hb',hheap b (s1 b hb').1]
    refine ⟨fun b hb'=>Nat.lt_of_lt_of_le (hG.lt b hb') hb.size,hG.below.trans (nN.of_below hb),fun n x hn hk=>?_,hG.ne,tr hG.facts0,fun j hj=>tr (hG.facts j hj)⟩
    have:=hG.block n x hn hk
    refine ⟨?_,this.2⟩
    rw [hheap _ (hG.lt _ this.2.1)]
    exact this.1
  unfold opv
  rw [h1]
  refine (hf ρ T w1 hG1).mono (fun e w2 hew=>?_)
  obtain ⟨g,rfl,hb2,hg,hgo⟩:=hew
  show After ops D h vals effs fact i ρ T w _ w2
  have he':=he ρ g
  refine ⟨{ n:=g},(hv ρ g).symm,nN.of_below (hb.trans (hb2.mono hb.size)),?_,?_,?_,dB (ht _)⟩
  · rw [he'];intro n q hm;simp at hm
  · rw [he']
    intro j b q hj
    have:j=0:=by
      have:=(List.getElem?_eq_some_iff.1 hj).1
      simpa using this
    subst this
    simp only [List.getElem?_cons_zero,Option.some.injEq,Prod.mk.injEq] at hj
    obtain ⟨rfl,rfl⟩:=hj
    exact ⟨Nat.le_trans hb.size hg,hgo⟩
  · rw [he'];simp
end
theorem hdz_le (n k:Nat):Hd (zB (n+k)) (List.replicate n 0):=by
  unfold Hd zB bs
  simp
section
variable {P : Program} {t e : TypeId}
theorem app_zeros {w:World} {ty tx:TypeId} (ht:P.underlying t=some (.slice e)) (hi:lJ P e) (hx:P.underlying tx=some (.int .i64)) {n:Nat} (h0:0<n) (hm:n≤140737488351232) :
    ∃ k w',(do pure (Next.value (← Builtin.append_ #[t,tx] ty #[.slice none 0 0,.int .i64 ((n:Nat):Int)])):Sem Next).run P w=.ok (.value (.slice (some ⟨([w.heap.size,k]:List Nat).headD 0,0,none⟩) (List.replicate n (0:UInt8)).length (n+([w.heap.size,k]:List Nat).tail.headD 0))) w'∧Grew w w' (.cells (zB (n+([w.heap.size,k]:List Nat).tail.headD 0)) e (0,0)):=by
  obtain ⟨i,h1,h2,h3,h4⟩:=hi
  have hge:=grownCap_ge w n 0 e
  have hwrap:IntKind.i64.wrap ((n:Nat):Int)=(n:Int):=gZ (by omega)
  have hfit:=growslice_fits (need:=n) (old:=0) (bytes:=1) h0 (by omega)
  have e1: ¬ ((n:Int)<0):=by omega
  have e2: ¬ ((281474976710656:Int)<(n:Int)):=by omega
  have e3: ¬ (n=0):=by omega
  have e4: ¬ (9223372036854775807<(n:Int)):=by omega
  have e5: ¬ (281474976710656<Builtin.nextslicecap n 0):=by omega
  refine ⟨grownCap w n 0 e-n,w.drew.alloc (.cells (zB (n+(grownCap w n 0 e-n))) e),?_,⟨rfl,rfl,rfl,rfl⟩⟩
  have hz:(zB n++zB (grownCap w n 0 e-n))=zB (n+(grownCap w n 0 e-n)):=by
    unfold zB bs
    simp
  have hrun:(Builtin.append_ #[t,tx] ty #[.slice none 0 0,.int .i64 ((n:Nat):Int)]).run P w=.ok (.slice (some ⟨w.heap.size,0,none⟩) n (grownCap w n 0 e)) (w.drew.alloc (.cells (zB n++zB (grownCap w n 0 e-n)) e)):=by
    simp [Builtin.append_,run_underlying ht,run_underlying hx,sizeOf,typeInfo,zeroValue,h1,h2,h3,h4,asInt,asIntOf,hwrap,e1,e2,e3,e4,e5,Question.forced,newRow,grownCap,Builtin.firstCells,← zero_zB]
    rfl
  rw [Sem.run_bind,hrun,hz]
  simp only [List.length_replicate,List.headD,List.tail]
  rw [show n+(grownCap w n 0 e-n)=grownCap w n 0 e by omega]
  rfl
end
section
variable {P : Program} {ops : Array Oper} {D : List Nat} {l : List (Nat × Value)} {w0 : Base} {h : List (Nat × Obj)} {F0 : World → Prop}
variable {vals : (Nat → bH) → Nat → Value} {effs : (Nat → bH) → Nat → Eff} {fact : (Nat → bH) → Nat → World → Prop}
theorem o_callR (i:Nat) (f:FuncId) (args:(Nat→bH)→Array Value) (v:(Nat→bH)→bH→Value) (ob:(Nat→bH)→bH→Obj) (pf:(Nat→bH)→bH→Prop)
    (hc:∀ ρ z,eU P ops D l (vals ρ) i z=some (.enter f (args ρ),[],[]))
    (hv:∀ ρ r,vals (upd ρ i r) i=v ρ r) (he:∀ ρ r,effs (upd ρ i r) i={ news:=[(r.n.headD 0,ob ρ r)]}) (ht:∀ ρ r,fact (upd ρ i r) i=fun _=>pf ρ r)
    (hf:∀ ρ T w,Given ops D w0 h F0 effs fact i ρ T w→Calls P f (args ρ) w (fun e w'=>∃ r,e=.returned (v ρ r)∧Below w.heap.size w w'∧w.heap.size≤r.n.headD 0∧w'.heap[r.n.headD 0]? = some (ob ρ r)∧pf ρ r)):jV P ops D l w0 h F0 vals effs fact i:=by
  have key:∀ ρ z,((ops[i]?).isSome=true∧fM (vals ρ) (opAt ops i)=true)∧kH P (execOp (dC ops D l (vals ρ) i) (opAt ops i)) [] [] z=some (.enter f (args ρ),[],[]):=by
    intro ρ z
    have h1:=hc ρ z
    unfold eU at h1
    split at h1
    · rename_i hb
      simp only [Bool.and_eq_true] at hb
      exact ⟨hb,h1⟩
    · exact absurd h1 (by simp)
  intro o ho ρ T w hG
  have hoe:=eY (key ρ []).1.1
  rw [ho] at hoe
  obtain rfl:o=opAt ops i:=by simpa using hoe
  rw [if_pos (key ρ []).1.2]
  obtain ⟨w1,h1,_,_,h4,_,_⟩:=kQ (P:=P) (execOp (dC ops D l (vals ρ) i) (opAt ops i)) [] [] w _ _ _ (by intro y hy;simp at hy) (by simp) ((key ρ _).2) trivial
  have hb:Below w.heap.size w w1:=⟨h4.os,h4.tape,h4.output,h4.size,fun k hk=>h4.block k hk (by simp)⟩
  have hheap:∀ b,b<w.heap.size→w1.heap[b]? = w.heap[b]? := fun b hb'=>hb.block b hb'
  have hG1:Given ops D w0 h F0 effs fact i ρ T w1:=by
    have tr:∀ {F:World→Prop},dL T F w→dL T F w1:=by
      rintro F ⟨S,s1,s2⟩
      refine ⟨S,fun b hb'=>⟨Nat.lt_of_lt_of_le (s1 b hb').1 hb.size,(s1 b hb').2⟩,fun w' hw=>s2 w' (fun b hb'=>?_)⟩
      rw [hw b hb',hheap b (s1 b hb').1]
    refine ⟨fun b hb'=>Nat.lt_of_lt_of_le (hG.lt b hb') hb.size,hG.below.trans (nN.of_below hb),fun n x hn hk=>?_,hG.ne,tr hG.facts0,fun j hj=>tr (hG.facts j hj)⟩
    have:=hG.block n x hn hk
    refine ⟨?_,this.2⟩
    rw [hheap _ (hG.lt _ this.2.1)]
    exact this.1
  unfold opv
  rw [h1]
  refine (hf ρ T w1 hG1).mono (fun e w2 hew=>?_)
  obtain ⟨g,rfl,hb2,hg,hgo,hpf⟩:=hew
  show After ops D h vals effs fact i ρ T w _ w2
  have he':=he ρ g
  refine ⟨g,(hv ρ g).symm,nN.of_below (hb.trans (hb2.mono hb.size)),?_,?_,?_,by rw [ht ρ g];exact dB (fun _=>hpf)⟩
  · rw [he'];intro n q hm;simp at hm
  · rw [he']
    intro j b q hj
    have:j=0:=by
      have:=(List.getElem?_eq_some_iff.1 hj).1
      simpa using this
    subst this
    simp only [List.getElem?_cons_zero,Option.some.injEq,Prod.mk.injEq] at hj
    obtain ⟨rfl,rfl⟩:=hj
    exact ⟨Nat.le_trans hb.size hg,hgo⟩
  · rw [he'];simp
end
theorem Rs.pers0 {w:World} {a:Option Addr} {vs:List Value} (h:Rs w a vs):dL (fun _=>False) (fun w=>Rs w a vs) w:=h.pers apart0
def gU (ns:List Nat) (j:Nat):Nat:=ns.getD j default
structure Us (w:World) (a:Option Addr) (c:Nat) (ns:List Nat):Prop where
  le:ns.length≤c
  max:ns.length≤1000000
  rows:Rs w a (kU.r ns)
  ok:∀ n∈ns,n<M
theorem Us.nil {w:World} {a:Option Addr} {c:Nat}:Us w a c []:=⟨by simp,by simp,Or.inl rfl,by simp⟩
theorem Us.persA {T:Nat→Prop} {w:World} {a:Option Addr} {c:Nat} {ns:List Nat} (h:Us w a c ns) (hT:Apart T a (kU.r ns).length):dL T (fun w=>Us w a c ns) w :=
  (h.rows.pers hT).mono (fun _ hr=>⟨h.le,h.max,hr,h.ok⟩)
theorem Us.pers0 {w:World} {a:Option Addr} {c:Nat} {ns:List Nat} (h:Us w a c ns):dL (fun _=>False) (fun w=>Us w a c ns) w:=h.persA apart0
theorem gU_ok {ns:List Nat} (h:∀ n∈ns,n<M) (j:Nat):gU ns j<M:=wF h iL j
theorem Us.pos {w:World} {a:Option Addr} {c:Nat} {ns:List Nat} (h:Us w a c ns) {i:Nat} (hi:i<ns.length):Rs w a (kU.r ns)∧0<(kU.r ns).length:=⟨h.rows,by rw [kU.r_len];omega⟩
section
variable {P : Program} {t e : TypeId} {w : World} {a : Option Addr} {c : Nat} {ns : List Nat}
theorem Us.idx (ht:P.underlying t=some (.slice e)) (hs:∀ w,(sizeOf e).run P w=.ok 4 w) {m:Nat} {k:IntKind} {z:Int} {j:Nat} (h:Us w a c ns) (hm:m=ns.length) (hz:z=(j:Int)) (hj:j<ns.length) :
    (do pure (Next.value (← Instr.indexAt t (.slice a m c) (.int k z))):Sem Next).run P w=.ok (.value (.pointer (fK a (j*4)))) w:=idx_rs ht hs (h.pos hj).1 (h.pos hj).2 hz (by omega)
theorem Us.ldA {i:Nat} (ha:∀ w,(isAgg e).run P w=.ok true w) (hs:∀ w,(sizeOf e).run P w=.ok 4 w) (h:Us w a c ns) (hi:i<ns.length) :
    (do pure (Next.value (← Instr.loadAt e (.pointer (fK a (i*4))))):Sem Next).run P w=.ok (.value (U (gU ns i))) w:=by
  have h1:=pG (us:=(cU (gU ns i)).toList) ha hs h.rows (by simp) (by decide) (fun j hj=>fm_get (f:=kU.f) kU.len ns i j hi hj)
  rw [Array.toArray_toList] at h1;exact h1
theorem pY (ht:P.underlying t=some (.slice e)) {sz:Nat} (hs:∀ w,(sizeOf e).run P w=.ok sz w) {n m k:Nat} {hi':Value} (hm:m=n) (hh:hi'=.int .i64 (k:Int)) (hk:k≤n) (hc:n≤c) {r:Nat} (hr:k=r) :
    (do pure (Next.value (← Instr.sliceAt t (.slice a m c) none (some hi') none)):Sem Next).run P w=.ok (.value (.slice a r c)) w:=by
  subst hm hh hr
  have hs:=hs w
  have h2:k≤c:=by omega
  have hb1:(Instr.sliceBounds true m c none (some (.int .i64 (k:Int))) none).run P w=.ok (0,k,c) w:=by
    simp [Instr.sliceBounds,Instr.sliceBound,asIntOf,h2]
  have hz:a.map (·.add (0*sz))=a:=by
    cases a with
    | none=>rfl
    | some p=>simp [Addr.add]
  simp [Instr.sliceAt,Instr.slice,run_underlying ht,hs,hb1]
  intro hc0
  rw [Nat.zero_mul] at hz
  exact hz
theorem fP (ht:P.underlying t=some (.slice e)) {sz:Nat} (hs:∀ w,(sizeOf e).run P w=.ok sz w) {n m k:Nat} {lo':Value} (hm:m=n) (hh:lo'=.int .i64 (k:Int)) (hk:k≤n) (hc:n≤c) {r:Nat} (hr:n-k=r) :
    (do pure (Next.value (← Instr.sliceAt t (.slice a m c) (some lo') none none)):Sem Next).run P w=.ok (.value (.slice (if c=k then a else a.map (·.add (k*sz))) r (c-k))) w:=by
  subst hm hh hr
  have hs:=hs w
  have hb1:(Instr.sliceBounds true m c (some (.int .i64 (k:Int))) none none).run P w=.ok (k,m,c) w:=by
    simp [Instr.sliceBounds,Instr.sliceBound,asIntOf,hk]
  simp [Instr.sliceAt,Instr.slice,run_underlying ht,hs,hb1]
end
section
variable {α : Type} {sz : Nat} (K : RowK α sz)
theorem RowK.r_take:∀ (l:List α) (k:Nat),K.r (l.take k)=(K.r l).take (k*sz)
  | [],k=>by simp [RowK.r]
  | x::r,0=>by simp [RowK.r]
  | x :: r, k + 1 => by
    have hl:(K.f x).length=sz:=K.len x
    have h1:(K.f x).take ((k+1)*sz)=K.f x:=List.take_of_length_le (by rw [hl,Nat.add_mul,Nat.one_mul];omega)
    have h2:(k+1)*sz-sz=k*sz:=by rw [Nat.add_mul,Nat.one_mul];omega
    show K.f x++K.r (r.take k)=(K.f x++K.r r).take ((k+1)*sz)
    rw [List.take_append,hl,h1,h2,r_take r k]
theorem RowK.r_drop:∀ (l:List α) (k:Nat),K.r (l.drop k)=(K.r l).drop (k*sz)
  | [],k=>by simp [RowK.r]
  | x::r,0=>by simp [RowK.r]
  | x :: r, k + 1 => by
    have hl:(K.f x).length=sz:=K.len x
    have h1:(K.f x).drop ((k+1)*sz)=[]:=List.drop_of_length_le (by rw [hl,Nat.add_mul,Nat.one_mul];omega)
    have h2:(k+1)*sz-sz=k*sz:=by rw [Nat.add_mul,Nat.one_mul];omega
    show K.r (r.drop k)=(K.f x++K.r r).drop ((k+1)*sz)
    rw [List.drop_append,hl,h1,h2,r_drop r k];rfl
end
theorem Us.take {w:World} {a:Option Addr} {c:Nat} {ns:List Nat} (h:Us w a c ns) (k:Nat):Us w a c (ns.take k):=by
  refine ⟨Nat.le_trans (by rw [List.length_take];exact Nat.min_le_right _ _) h.le,Nat.le_trans (by rw [List.length_take];exact Nat.min_le_right _ _) h.max,?_,fun n hn=>h.ok n (List.mem_of_mem_take hn)⟩
  rw [RowK.r_take]
  exact h.rows.take _
theorem Us.drop {w:World} {a:Option Addr} {c:Nat} {ns:List Nat} (h:Us w a c ns) {k:Nat} (hk:k≤ns.length):Us w (if c=k then a else a.map (·.add (k*4))) (c-k) (ns.drop k):=by
  have hle:=h.le
  refine ⟨by rw [List.length_drop];omega,by rw [List.length_drop];have:=h.max;omega,?_,fun n hn=>h.ok n (List.mem_of_mem_drop hn)⟩
  by_cases hc:c=k
  · have : ns.drop k = [] := List.eq_nil_of_length_eq_zero (by rw [List.length_drop]; omega)
    rw [this];exact Or.inl rfl
  · rw [if_neg hc, RowK.r_drop]
    exact h.rows.drop _
section
variable {P : Program} {ops : Array Oper} {D : List Nat} {l : List (Nat × Value)} {w0 : Base} {h : List (Nat × Obj)} {F0 : World → Prop}
variable {vals : (Nat → bH) → Nat → Value} {effs : (Nat → bH) → Nat → Eff} {fact : (Nat → bH) → Nat → World → Prop}
theorem o_callV (i:Nat) (f:FuncId) (args:(Nat→bH)→Array Value) (v:(Nat→bH)→Option Addr→Nat→Value) (Φ:(Nat→bH)→World→Option Addr→Nat→Prop)
    (hf:∀ ρ T w,Given ops D w0 h F0 effs fact i ρ T w→Calls P f (args ρ) w (fun e w'=>∃ a c,e=.returned (v ρ a c)∧Below w.heap.size w w'∧dL (fun b=>b<w.heap.size) (fun w=>Φ ρ w a c) w'))
    (hc:∀ ρ z,eU P ops D l (vals ρ) i z=some (.enter f (args ρ),[],[]):=by intros;kernel_rfl)
    (hv:∀ ρ r,vals (upd ρ i r) i=v ρ r.a (r.n.headD 0):=by intros;kernel_rfl) (he:∀ ρ r,effs (upd ρ i r) i={}:=by intros;kernel_rfl)
    (ht:∀ ρ r,fact (upd ρ i r) i=(fun w=>Φ ρ w r.a (r.n.headD 0)):=by intros;kernel_rfl):jV P ops D l w0 h F0 vals effs fact i:=by
  refine o_callG i f args hc he (fun ρ T w hG=>(hf ρ T w hG).mono (fun e w' hew=>?_))
  obtain ⟨a,c,h1,h2,h3⟩:=hew
  refine ⟨h2,{ n:=[c],a:=a},?_,?_⟩
  · rw [hv];exact h1
  · rw [ht];exact h3
theorem o_callWB (i:Nat) (ns:List Nat) (f:FuncId) (args:(Nat→bH)→Array Value) (v:(Nat→bH)→Option Addr→Nat→Value) (xs:(Nat→bH)→List UInt8) (K K':(Nat→bH)→List (Nat × Obj))
    (hf:∀ ρ T w,Given ops D w0 h F0 effs fact i ρ T w→Knows (K ρ) w→Calls P f (args ρ) w (fun e w'=>∃ a c,e=.returned (v ρ a c)∧nN (fun b=>b∈(K ρ).map (·.1)) w w'∧Knows (K' ρ) w'∧Fs w w' a c (xs ρ)))
    (hc:∀ ρ z,eU P ops D l (vals ρ) i z=some (.enter f (args ρ),[],[]):=by intros;kernel_rfl)
    (hv:∀ ρ r,vals (upd ρ i r) i=v ρ r.a (r.n.headD 0):=by intros;kernel_rfl) (he:∀ ρ r,effs (upd ρ i r) i={ puts:=ns.zip (K' ρ)}:=by intros;kernel_rfl)
    (hn:∀ ρ,dY ops D h (effs ρ) i ns=true:=by intros;kernel_rfl) (hk:∀ ρ,known ops D h (effs ρ) i ns=K ρ:=by intros;kernel_rfl) (hl:∀ ρ,(K' ρ).map (·.1)=(K ρ).map (·.1):=by intros;kernel_rfl)
    (ht:∀ ρ r,fact (upd ρ i r) i=(fun w=>Fs w0.w w r.a (r.n.headD 0) (xs ρ)):=by intros;kernel_rfl):jV P ops D l w0 h F0 vals effs fact i:=by
  refine y7 i ns f args K (fun ρ _=>K' ρ) hc he hn hk (fun ρ _=>hl ρ) (fun ρ T w hG hK=>(hf ρ T w hG hK).mono (fun e w' hew=>?_))
  obtain ⟨a,c,h1,h2,h3,h4⟩:=hew
  refine ⟨h2,{ n:=[c],a:=a},?_,h3,?_⟩
  · rw [hv];exact h1
  · rw [ht];exact (h4.pers (fun b hb=>hb)).mono (fun _ hx=>hx.older hG.below.size)
theorem qV {i:Nat} {f:FuncId} {args:(Nat→bH)→Array Value} {v:(Nat→bH)→Option Addr→Nat→Value} {Φ:(Nat→bH)→World→Option Addr→Nat→Prop}
    (hf:∀ ρ T w,Given ops D w0 h F0 effs fact i ρ T w→Calls P f (args ρ) w (fun e w'=>∃ a c,e=.returned (v ρ a c)∧Below w.heap.size w w'∧dL (fun b=>b<w.heap.size) (fun w=>Φ ρ w a c) w'))
    (hc:∀ ρ z,eU P ops D l (vals ρ) i z=some (.enter f (args ρ),[],[]):=by intros;kernel_rfl)
    (hv:∀ ρ r,vals (upd ρ i r) i=v ρ r.a (r.n.headD 0):=by intros;kernel_rfl) (he:∀ ρ r,effs (upd ρ i r) i={}:=by intros;kernel_rfl)
    (ht:∀ ρ r,fact (upd ρ i r) i=(fun w=>Φ ρ w r.a (r.n.headD 0)):=by intros;kernel_rfl):jV P ops D l w0 h F0 vals effs fact i:=o_callV i f args v Φ hf hc hv he ht
theorem qWB {i:Nat} (ns:List Nat) {f:FuncId} {args:(Nat→bH)→Array Value} {v:(Nat→bH)→Option Addr→Nat→Value} {xs:(Nat→bH)→List UInt8} {K K':(Nat→bH)→List (Nat × Obj)}
    (hf:∀ ρ T w,Given ops D w0 h F0 effs fact i ρ T w→Knows (K ρ) w→Calls P f (args ρ) w (fun e w'=>∃ a c,e=.returned (v ρ a c)∧nN (fun b=>b∈(K ρ).map (·.1)) w w'∧Knows (K' ρ) w'∧Fs w w' a c (xs ρ)))
    (hc:∀ ρ z,eU P ops D l (vals ρ) i z=some (.enter f (args ρ),[],[]):=by intros;kernel_rfl)
    (hv:∀ ρ r,vals (upd ρ i r) i=v ρ r.a (r.n.headD 0):=by intros;kernel_rfl) (he:∀ ρ r,effs (upd ρ i r) i={ puts:=ns.zip (K' ρ)}:=by intros;kernel_rfl)
    (hn:∀ ρ,dY ops D h (effs ρ) i ns=true:=by intros;kernel_rfl) (hk:∀ ρ,known ops D h (effs ρ) i ns=K ρ:=by intros;kernel_rfl) (hl:∀ ρ,(K' ρ).map (·.1)=(K ρ).map (·.1):=by intros;kernel_rfl)
    (ht:∀ ρ r,fact (upd ρ i r) i=(fun w=>Fs w0.w w r.a (r.n.headD 0) (xs ρ)):=by intros;kernel_rfl):jV P ops D l w0 h F0 vals effs fact i:=o_callWB i ns f args v xs K K' hf hc hv he hn hk hl ht
end
theorem Us.new {w0 w:World} {g c:Nat} {C:Array Value} {e:TypeId} {fr:Nat × Nat} {ns:List Nat} (hg:w0.heap.size≤g∧w.heap[g]? = some (.cells C e fr)) (hA:kU.A C ns c) (hm:ns.length≤1000000) (ok:∀ n∈ns,n<M):dL (fun b=>b<w0.heap.size) (fun w=>Us w (some ⟨g,0,none⟩) c ns) w :=
  (rsP (fun _ hb=>hb) hg hA).mono (fun _ hr=>⟨hA.le,hm,hr,ok⟩)
theorem Is.none {w:World} {k:IntKind} {a:Option Addr} {c:Nat} {ps:List Nat} (h:Is w k a c (nI ps)) (hn:a.isNone=true):ps=[]:=by
  cases a with
  | none =>
    rcases h.rows with h0 | ⟨p,hp,_⟩
    · have := congrArg List.length h0
      rw [iv_length,fZ] at this
      exact List.eq_nil_of_length_eq_zero this
    · exact absurd hp (by simp)
  | some p=>simp at hn
theorem bM.pathN {w:World} {a:Option Addr} {c:Nat} {ts:List bW} (h:bM w a c ts) {i j:Nat} (hi:i<ts.length) (hj:j<(gT ts i).ks.length) (hn:(gK (gT ts i).ks j).pa.isNone=true):(gK (gT ts i).ks j).ps=[] :=
  ((h.sub _ (fA hi)).sub _ (nU hj)).none hn
theorem ix_a {p:dO} {i:Nat} (hw:p.wd=false) (hn:p.ps=[]):p.ix i=[]:=by unfold dO.ix;rw [hw,hn];rfl
theorem ix_b {p:dO} {i:Nat} (hw:p.wd=true) (hn:p.ps=[]):p.ix i=[i]:=by unfold dO.ix;rw [hw,hn];rfl
theorem ix_c {p:dO} {i:Nat} (hw:p.wd=false):p.ix i=p.ps:=by unfold dO.ix;rw [hw];rfl
theorem ix_d {p:dO} {i:Nat} (hw:p.wd=true):p.ix i=p.ps++[i]:=by unfold dO.ix;rw [hw];rfl
theorem u32Z {z:Int} (h1:decide (z<0)=false) (h2:decide (1000≤z)=false):IntKind.u32.wrap z=((z.toNat:Nat):Int):=by
  have a:=of_decide_eq_false h1;have b:=of_decide_eq_false h2
  have e:z=((z.toNat:Nat):Int):=by omega
  rw [e];exact u32N (by omega)
theorem z32n {z:Int} (h1:decide (z<0)=false) (h2:decide (1000≤z)=false):z.toNat<4294967296:=by
  have a:=of_decide_eq_false h1;have b:=of_decide_eq_false h2
  omega
theorem aK_at {ts:List bW} {i:Nat} (hi:i<ts.length):aK (ts.drop i)=(gT ts i).ks.drop 0++aK (ts.drop (i+1)):=by rw [zO hi];rfl
theorem vl_ks {ts:List bW} (h:xW ts=true) {i:Nat} (hi:i<ts.length):(gT ts i).ks.length≤15:=by
  have hf:=List.all_eq_true.1 (vl_get h).2.2.1 _ (fA hi)
  have:=(qO _ _ _ _ _).1 hf
  unfold o7 at this
  omega
theorem jC {ts:List bW} (h:xW ts=true) {i j:Nat} (hi:i<ts.length) (hj:j<(gT ts i).ks.length):(gK (gT ts i).ks j).ps.length≤8:=by
  have hv:=List.all_eq_true.1 (List.all_eq_true.1 (vl_get h).2.2.2 _ (fA hi)) _ (nU hj)
  unfold dO.vp at hv
  simp only [Bool.and_eq_true,decide_eq_true_eq] at hv
  exact hv.1
theorem aK_le:∀ ts:List bW,(∀ t∈ts,t.ks.length≤15)→(aK ts).length≤15*ts.length
  | [],_=>Nat.le_refl _
  | t :: r, h => by
    have a:=h t (List.mem_cons_self ..)
    have b:=aK_le r fun t ht=>h t (List.mem_cons_of_mem _ ht)
    show (t.ks++aK r).length≤_
    rw [List.length_append,List.length_cons];omega
theorem vl_aK {ts:List bW} (h:xW ts=true):(aK ts).length≤120:=by
  have h8:=(vl_get h).1
  have:=aK_le ts fun t ht=>by
    obtain ⟨i,hi,e⟩:=List.mem_iff_getElem.1 ht
    have:=vl_ks h hi
    rwa [show gT ts i=t by unfold gT;rw [List.getD_eq_getElem?_getD,List.getElem?_eq_getElem hi,e];rfl] at this
  omega
section
variable {i0 i j : Nat} {ts : List bW} {N T : List Nat} {E : Int} {R : List dO}
theorem kn_in (hi:i<ts.length) (hN:N++xE i0 (aK (ts.drop i))=T):N++xE i0 ((gT ts i).ks.drop 0++aK (ts.drop (i+1)))=T:=by rw [← aK_at hi];exact hN
theorem ke_in (hi:i<ts.length) (hE:uU i0 (aK (ts.drop i))=E):uU i0 ((gT ts i).ks.drop 0++aK (ts.drop (i+1)))=E:=by rw [← aK_at hi];exact hE
theorem kn_out {ks:List dO} (hj:ks.length≤j) (hN:N++xE i0 (ks.drop j++R)=T):N++xE i0 R=T:=by rw [List.drop_eq_nil_of_le hj] at hN;exact hN
theorem ke_out {ks:List dO} (hj:ks.length≤j) (hE:uU i0 (ks.drop j++R)=E):uU i0 R=E:=by rw [List.drop_eq_nil_of_le hj] at hE;exact hE
theorem wV {ks:List dO} {q:List Nat} (hj:j<ks.length) (hq:(gK ks j).ix i0=q) (hN:N++xE i0 (ks.drop j++R)=T):(N++[(iQ (gK ks j).k q).p])++xE i0 (ks.drop (j+1)++R)=T:=by
  rw [zO hj] at hN
  rw [← hN,List.append_assoc,← hq];rfl
theorem xJ {ks:List dO} {q:List Nat} (hj:j<ks.length) (hq:(gK ks j).ix i0=q) (he:(nM (gK ks j).k q != 0)=false) (hE:uU i0 (ks.drop j++R)=E):uU i0 (ks.drop (j+1)++R)=E:=by
  have h0:nM (gK ks j).k ((gK ks j).ix i0)=0:=by rw [hq];exact dD he
  rw [zO hj] at hE
  rw [← hE]
  show _=uU i0 (gK ks j::(ks.drop (j+1)++R))
  rw [uU,if_pos h0]
theorem l7 {ks:List dO} {q:List Nat} (hj:j<ks.length) (hq:(gK ks j).ix i0=q) (he:(nM (gK ks j).k q != 0)=true) (hE:uU i0 (ks.drop j++R)=E):E=nM (gK ks j).k q:=by
  have h0: ¬ nM (gK ks j).k ((gK ks j).ix i0)=0:=by rw [hq];exact iK he
  rw [zO hj] at hE
  rw [← hE]
  show uU i0 (gK ks j::(ks.drop (j+1)++R))=_
  rw [uU,if_neg h0,hq]
theorem kn_len (hv:xW ts=true) {L:List dO} (hN:N++xE i0 L=xE i0 (aK ts)):N.length+L.length≤120:=by
  have:=congrArg List.length hN
  unfold xE at this
  rw [List.length_append,List.length_map,List.length_map] at this
  have:=vl_aK hv
  omega
end
theorem zN {α:Type} [Inhabited α] {l R:List α} {j:Nat} (h:j<l.length):0<(l.drop j++R).length:=by rw [zO h];simp
section
variable {ts : List bW} {z : Int}
theorem ky_bad (h:xW ts=false):kZ ts z=260∧gV ts z=[]:=by
  have e:kZ ts z=260:=by unfold kZ;rw [h];rfl
  exact ⟨e,by unfold gV;rw [e];rfl⟩
theorem vC (h:xW ts=true) (hz: ¬ (0≤z∧z<1000)):kZ ts z=5∧gV ts z=[]:=by
  have e:kZ ts z=5:=by unfold kZ;rw [if_pos h,if_neg hz]
  exact ⟨e,by unfold gV;rw [e];rfl⟩
theorem pI (h:xW ts=true) (h1:decide (z<0)=false) (h2:decide (1000≤z)=false) {e:Int} (he:uU z.toNat (aK ts)=e) (hne:(e != 0)=true):kZ ts z=e∧gV ts z=[]:=by
  have q:kZ ts z=e:=by unfold kZ;rw [if_pos h,if_pos ⟨by have:=of_decide_eq_false h1;omega,by have:=of_decide_eq_false h2;omega⟩,he]
  exact ⟨q,by unfold gV;rw [q,if_neg (iK hne)]⟩
theorem ky_ok (h:xW ts=true) (h1:decide (z<0)=false) (h2:decide (1000≤z)=false) {N:List Nat} {i:Nat} (hi:ts.length≤i) (hE:uU z.toNat (aK (ts.drop i))=uU z.toNat (aK ts)) (hN:N++xE z.toNat (aK (ts.drop i))=xE z.toNat (aK ts)):kZ ts z=0∧gV ts z=N:=by
  rw [List.drop_eq_nil_of_le hi] at hE hN
  have q:kZ ts z=0:=by unfold kZ;rw [if_pos h,if_pos ⟨by have:=of_decide_eq_false h1;omega,by have:=of_decide_eq_false h2;omega⟩,← hE];rfl
  exact ⟨q,by unfold gV;rw [if_pos q,← hN];exact List.append_nil N⟩
end
theorem allB4 {w:World} {a0 a1 a2 a3:Option Addr} {c0 c1 c2 c3:Nat} {B0 B1 B2 B3:List UInt8} (h0:Bs w a0 c0 B0) (h1:Bs w a1 c1 B1) (h2:Bs w a2 c2 B2) (h3:Bs w a3 c3 B3):rO w 4 (fun k=>[a0,a1,a2,a3].getD k none) (fun k=>[c0,c1,c2,c3].getD k 0) (fun k=>[B0,B1,B2,B3].getD k []):=by
  intro k hk
  rcases (by omega:k=0∨k=1∨k=2∨k=3) with rfl | rfl | rfl | rfl
  · exact h0
  · exact h1
  · exact h2
  · exact h3
theorem allB5 {w:World} {a0 a1 a2 a3 a4:Option Addr} {c0 c1 c2 c3 c4:Nat} {B0 B1 B2 B3 B4:List UInt8} (h0:Bs w a0 c0 B0) (h1:Bs w a1 c1 B1) (h2:Bs w a2 c2 B2) (h3:Bs w a3 c3 B3) (h4:Bs w a4 c4 B4):rO w 5 (fun k=>[a0,a1,a2,a3,a4].getD k none) (fun k=>[c0,c1,c2,c3,c4].getD k 0) (fun k=>[B0,B1,B2,B3,B4].getD k []):=by
  intro k hk
  rcases (by omega:k=0∨k=1∨k=2∨k=3∨k=4) with rfl | rfl | rfl | rfl | rfl
  · exact h0
  · exact h1
  · exact h2
  · exact h3
  · exact h4
theorem hd3 {x y z:Int} (h:0≤x∧x<256) (h':0≤y∧y<256) (h2:0≤z∧z<256):Hd #[.int .u8 x,.int .u8 y,.int .u8 z] [ob x,ob y,ob z]:=by
  simp [Hd,bs,zW h,zW h',zW h2]
theorem eG (d:List UInt8):(bQ d).length=d.length+2:=by unfold bQ;rw [List.length_append,List.length_cons,List.length_cons,List.length_nil];omega
theorem qY (d:List UInt8):0<(bQ d).length:=by rw [eG];omega
theorem itF_len:∀ f n:Nat,(itF f n).length≤f
  | 0,_=>Nat.le_refl _
  | f + 1, n => by
    unfold itF
    split
    · exact Nat.zero_le _
    · rw [List.length_cons];exact Nat.succ_le_succ (itF_len f _)
theorem itF_pos {f n:Nat} (h:decide (0<((n:Nat):Int))=true):itF (f+1) n=ob ((n%256:Nat):Int)::itF f (n / 2^8):=by
  have:=of_decide_eq_true h
  rw [itF,if_neg (by omega)]
theorem itF_z {f n:Nat} (h:decide (0<((n:Nat):Int))=false):itF f n=[]:=by
  have:=of_decide_eq_false h
  cases f with
  | zero=>rfl
  | succ f=>rw [itF,if_pos (by omega)]
theorem it_lt {m:Nat} (h0:decide (0<((m:Nat):Int))=true):m / 2^8<m:=by
  have:=of_decide_eq_true h0
  omega
theorem lY {X T:List UInt8} {m:Nat} (h0:decide (0<((m:Nat):Int))=true) (hX:X.length≤4) (hb:m<2^(8*(4-X.length))) (hE:X++itF (4-X.length) m=T) :
    (X++[ob ((m%256:Nat):Int)]).length≤4∧m / 2^8<2^(8*(4-(X++[ob ((m%256:Nat):Int)]).length))∧(X++[ob ((m%256:Nat):Int)])++itF (4-(X++[ob ((m%256:Nat):Int)]).length) (m / 2^8)=T:=by
  have hp:=of_decide_eq_true h0
  have hl:(X++[ob ((m%256:Nat):Int)]).length=X.length+1:=by rw [List.length_append];rfl
  rcases Nat.lt_or_ge X.length 4 with h4 | h4
  · obtain ⟨f, hf⟩ : ∃ f, 4 - X.length = f + 1 := ⟨4 - X.length - 1, by omega⟩
    have hf':4-(X.length+1)=f:=by omega
    rw [hf] at hb hE
    rw [hl,hf']
    refine ⟨by omega,?_,?_⟩
    · rw [Nat.mul_add, Nat.pow_add] at hb
      exact Nat.div_lt_of_lt_mul (by rw [Nat.mul_comm];exact hb)
    · rw [← hE,itF_pos h0,List.append_assoc];rfl
  · rw [show 4 - X.length = 0 by omega] at hb
    simp at hb
    omega
theorem it_32 {m k:Nat} (h:m<2^(8*(4-k))):m<4294967296:=by
  have h1:2^(8*(4-k))≤2^32:=Nat.pow_le_pow_right (by decide) (by omega)
  have h2:(2:Nat)^32=4294967296:=by decide
  omega
theorem pO (n:Nat):(iU n).length≤4:=itF_len 4 n
theorem lC (p:Nat):(sgB p).length=35:=by unfold sgB;rw [List.length_append,eG,aO];rfl
theorem mlB_len (m:Int):∀ ns:List Nat,(mlB m ns).length=34*ns.length+3:=by
  intro ns
  unfold mlB
  rw [List.length_append]
  have:(ns.flatMap fun p=>bQ (hL p)).length=34*ns.length:=by
    induction ns with
    | nil=>rfl
    | cons n r ih=>rw [List.flatMap_cons,List.length_append,ih,eG,aO,List.length_cons];omega
  rw [this];rfl
theorem nx_len : ∀ (f : Nat) (s : Mk) (b : List UInt8) (s' : Mk), nx f s = some (b, s') → b.length + 1000 ≤ 1000 * 2 ^ f
  | 0,_,_,_,h=>by simp [nx] at h
  | f + 1, s, b, s', h => by
    have hp:1000*2^(f+1)=1000*2^f+1000*2^f:=by rw [Nat.pow_succ];omega
    have h1:1000≤1000*2^f:=Nat.le_mul_of_pos_right _ (Nat.two_pow_pos f)
    unfold nx at h
    split at h
    · exact absurd h (by simp)
    rename_i hc
    have hc':s.can=true:=by simpa using hc
    split at h
    · simp only [Option.some.injEq,Prod.mk.injEq] at h;rw [← h.1,lC];omega
    split at h
    · rename_i hk2
      simp only [Option.some.injEq,Prod.mk.injEq] at h;rw [← h.1,mlB_len]
      unfold Mk.can at hc'
      simp only [Bool.and_eq_true] at hc'
      have:=((qO _ _ _ _ _).1 hc'.2.1).2.2.2.2.1 hk2
      have h3:(s.ns.take s.fst.ks.length).length≤s.fst.ks.length:=by rw [List.length_take];exact Nat.min_le_left _ _
      omega
    split at h
    · exact absurd h (by simp)
    rename_i a s1 e1
    have ha:=nx_len f _ _ _ e1
    have hi:=pO s.fst.nu
    have q1:(afB s.fst.nu a).length≤a.length+8:=by unfold afB;simp only [List.length_append,eG,List.length_cons,List.length_nil];omega
    have q2:(olB s.fst.nu a).length≤a.length+8:=by unfold olB;simp only [List.length_append,eG,List.length_cons,List.length_nil];omega
    have q3:(hsB s.fst.h a).length=a.length+37:=by unfold hsB;simp only [List.length_append,eG,aO,List.length_cons,List.length_nil];omega
    split at h
    · simp only [Option.some.injEq,Prod.mk.injEq] at h;rw [← h.1];omega
    split at h
    · simp only [Option.some.injEq,Prod.mk.injEq] at h;rw [← h.1];omega
    split at h
    · simp only [Option.some.injEq,Prod.mk.injEq] at h;rw [← h.1];omega
    split at h
    · split at h
      · exact absurd h (by simp)
      · rename_i b2 s2 e2
        have hb:=nx_len f _ _ _ e2
        have q4:(eiB a b2).length=a.length+b2.length+3:=by unfold eiB;simp only [List.length_append,List.length_cons,List.length_nil];omega
        simp only [Option.some.injEq,Prod.mk.injEq] at h;rw [← h.1,q4];omega
    · exact absurd h (by simp)
theorem eX {s:Mk} (h:s.can=true):0<s.ts.length:=by
  unfold Mk.can at h
  simp only [Bool.and_eq_true,decide_eq_true_eq] at h
  exact h.1
theorem vV {s:Mk} (h:s.can=true):o7 s.fst.kd s.fst.m s.fst.nu s.fst.h s.fst.ks.length:=by
  unfold Mk.can at h
  simp only [Bool.and_eq_true] at h
  exact (qO _ _ _ _ _).1 h.2.1
theorem fE {s:Mk} (h:s.can=true):s.fst.ks.length≤s.ns.length:=by
  unfold Mk.can at h
  simp only [Bool.and_eq_true,decide_eq_true_eq] at h
  exact h.2.2
theorem gU_take {ns:List Nat} {n:Nat} (h:0<n):gU (ns.take n) 0=ns.getD 0 0:=by
  cases ns with
  | nil=>simp [gU]
  | cons x r => cases n with
    | zero=>omega
    | succ n=>rfl
theorem bM.go {w:World} {s:Mk} (hc:s.can=true) (h:bM w s.ta s.tc s.ts):bM w s.go.ta s.go.tc s.go.ts:=h.tail (eX hc)
theorem Us.go {w:World} {s:Mk} (hc:s.can=true) (h:Us w s.ka s.kc s.ns):Us w s.go.ka s.go.kc s.go.ns:=h.drop (fE hc)
structure Left (s s':Mk):Prop where
  t:∀ w,bM w s.ta s.tc s.ts→bM w s'.ta s'.tc s'.ts
  u:∀ w,Us w s.ka s.kc s.ns→Us w s'.ka s'.kc s'.ns
  m:∀ x∈s'.ts,x∈s.ts
theorem Left.go {s:Mk} (hc:s.can=true):Left s s.go:=⟨fun _=>bM.go hc,fun _=>Us.go hc,fun _ hx=>List.mem_of_mem_tail hx⟩
theorem Left.trans {a b c:Mk} (h:Left a b) (k:Left b c):Left a c:=⟨fun w x=>k.t w (h.t w x),fun w x=>k.u w (h.u w x),fun x hx=>h.m x (k.m x hx)⟩
theorem nx_left : ∀ (f : Nat) (s : Mk) (b : List UInt8) (s' : Mk), nx f s = some (b, s') → Left s s'
  | 0,_,_,_,h=>by simp [nx] at h
  | f + 1, s, b, s', h => by
    unfold nx at h
    split at h
    · exact absurd h (by simp)
    rename_i hc
    have hg:=Left.go (s:=s) (by simpa using hc)
    split at h
    · simp only [Option.some.injEq,Prod.mk.injEq] at h;rw [← h.2];exact hg
    split at h
    · simp only [Option.some.injEq,Prod.mk.injEq] at h;rw [← h.2];exact hg
    split at h
    · exact absurd h (by simp)
    rename_i a s1 e1
    have h1:=hg.trans (nx_left f _ _ _ e1)
    split at h
    · simp only [Option.some.injEq,Prod.mk.injEq] at h;rw [← h.2];exact h1
    split at h
    · simp only [Option.some.injEq,Prod.mk.injEq] at h;rw [← h.2];exact h1
    split at h
    · simp only [Option.some.injEq,Prod.mk.injEq] at h;rw [← h.2];exact h1
    split at h
    · split at h
      · exact absurd h (by simp)
      · rename_i b2 s2 e2
        simp only [Option.some.injEq,Prod.mk.injEq] at h;rw [← h.2];exact h1.trans (nx_left f _ _ _ e2)
    · exact absurd h (by simp)
def nxS (s:Mk):Mk:=((nx 8 s).map (·.2)).getD s
theorem nxS_eq {s:Mk} {b:List UInt8} (h:∃ s',nx 8 s=some (b,s')):nx 8 s=some (b,nxS s):=by
  obtain ⟨s',h⟩:=h
  unfold nxS
  rw [h];rfl
section
variable {ts : List bW} {z : Int}
theorem ex_err (h:(kZ ts z != 0)=true):exE ts z=kZ ts z∧wG ts z=[]:=by
  have e:exE ts z=kZ ts z:=by unfold exE;rw [if_neg (iK h)]
  exact ⟨e,by unfold wG;rw [e,if_neg (iK h)]⟩
theorem wQ (h0:(kZ ts z != 0)=false) (h:decide (520<(((xP ts z).length:Nat):Int))=true):exE ts z=4∧wG ts z=[]:=by
  have:=of_decide_eq_true h
  have e:exE ts z=4:=by unfold exE;rw [if_pos (dD h0),if_pos (by omega)]
  exact ⟨e,by unfold wG;rw [e];rfl⟩
theorem ex_ok (h0:(kZ ts z != 0)=false) (h:decide (520<(((xP ts z).length:Nat):Int))=false):exE ts z=0∧wG ts z=xP ts z:=by
  have:=of_decide_eq_false h
  have e:exE ts z=0:=by unfold exE;rw [if_pos (dD h0),if_neg (by omega)]
  exact ⟨e,by unfold wG;rw [if_pos e]⟩
end
theorem wX (g:Nat) (n:Nat) (pa:Nat→Option Addr) (pc:Nat→Nat) (pB:Nat→List UInt8) (hn:n≤16) (hl:(mZ pB n).length≤140737488351232) (h0:0<(pB 0).length) (w0:World) (hf0:Kb w0 g (xO n pa pc pB)) (hf1:rO w0 n pa pc pB):Calls Tryz.prog 80 #[vs g n n] w0 (fun ε w'=>∃ α κ,ε=.returned (.slice α (mZ pB n).length κ)∧jG w0 w'∧Fs w0 w' α κ (mZ pB n)):=by
 refine Calls.of_ok (n:=17) (F:=(fun w=>Kb w g (xO n pa pc pB)∧rO w n pa pc pB∧True)) Tryz.func80 rfl rfl rfl (by simp) (hf0.pers0.and (hf1.pers0.and cO)) ?_
 refine jJ Tryz.f80 1 [0,2] [vz] (jJ Tryz.f80 1 [0,2,3] [vz] (aB (jJ Tryz.f80 3 [2,3,6,7,8] [vs g n n,vn n,vi 0] (aI ?_))))
 refine oL (σ:=Nat ⊕ (Nat × Nat × (List UInt8) × (Array Value) × Nat)) (fun s=>match s with | Sum.inl i=>[(2,vz),(3,vz),(6,(vs g n n)),(7,(vn n)),(8,(vn i))] | Sum.inr ⟨i,q,X,_,κ⟩=>[(2,vz),(3,(vs q X.length κ)),(6,(vs g n n)),(7,(vn n)),(8,(vn i))]) (fun s=>match s with | Sum.inl _=>[] | Sum.inr ⟨_,q,_,C,_⟩=>[(q,(cL C 5))]) (fun s=>match s with | Sum.inl i=>n-i | Sum.inr ⟨i,_,_,_,_⟩=>n-i)
   (fun s=>match s with | Sum.inl i=>(i≤n)∧(i=0) | Sum.inr ⟨i,_,X,C,κ⟩=>(i≤n)∧(X=mZ pB i)∧(Hd C X)∧(C.size=κ)∧(X.length≤κ)) (Sum.inl 0) (⟨Nat.zero_le _,rfl⟩) [] ?_
 rintro (i | ⟨i,q,X,C,κ⟩)
 ·
  rintro ⟨hi,h0i⟩
  change Ok Tryz.prog _ _ 17 [(2,vz),(3,vz),(6,(vs g n n)),(7,(vn n)),(8,(vn i))] _ [] (fun w=>Kb w g (xO n pa pc pB)∧rO w n pa pc pB∧True)
  refine jJ Tryz.f80 1 [2,3,6,7,8,9] [.bool (decide (((i:Nat):Int)<((n:Nat):Int)))] (aB ?_)
  refine oC (decide (((i:Nat):Int)<((n:Nat):Int))) (fun hb1=>?_) (fun hb1=>?_)
  ·
   rw [hb1]
   have:=yT hb1
   refine aG (aA (aB (aI ?_)))
   refine sS Tryz.f80 3 [2,3,5,6,7,8] [] (fun _=>let qa:Value:=.slice (pa i) (pB i).length (pc i);[jp g i,qa,qa]) (fun _=>[]) (cX (qS (fun _ w=>sO (g:=g) (c:=n) (k:=.i64) Tryz.underlying107 Tryz.sizeOf33 (show ((i:Nat):Int)=((i:Nat):Int) from rfl) (show i<n from (by omega)) w))<|cX (qF (v:=fun ρ=>(.slice (pa i) (pB i).length (pc i))) (fun _ _ _ hG=>mY (off:=i) Tryz.isAgg33 hG.fn.1 (uX (by omega))))<|jE [[]]) (fun _=>?_)
   refine rS Tryz.f80 4 [2,3,6,7,8] [] (fun ρ=>let qa:=vs (nb ρ 2) (pB i).length ((pB i).length+aZ ρ 2);[vz,.slice (pa i) (pB i).length (pc i),qa,qa]) (fun ρ=>[(2,(nw ρ 2 (cL ((bs (pB i)).toArray++zB (aZ ρ 2)) 5)))]) (cR [[],[]]<|cX (qN (fun _ ζ=>(vs (ζ.headD 0) (pB i).length ((pB i).length+ζ.tail.headD 0))) (fun _ ζ=>(cL ((bs (pB i)).toArray++zB (ζ.tail.headD 0)) 5)) (fun _ _ _ hG=>oU (ty:=33) Tryz.underlying33 nH (Bs.src (tx:=33) Tryz.underlying33 (hG.fn.2.1 i (by omega))) (by rw [h0i];exact h0) (by have h1:=(sH pB (show i<n by omega));omega)))<|jE [[]]) (fun ρ6=>?_)
   refine aJ (aA ?_)
   refine rS Tryz.f80 2 [2,3,6,7,8] [] (fun _=>[vn (i+1),vn (i+1)]) (fun _=>[]) (jW (fun ρ=>(((i:Nat):Int)+1)) (fun _=>(i+1)) (fun _=>(aW i 1 (by omega)))<|jE [[]]) (fun _=>?_)
   exact mN (Sum.inr (i+1,nb ρ6 2,pB i,(bs (pB i)).toArray++zB (aZ ρ6 2),(pB i).length+aZ ρ6 2)) (by show n-(i+1)<n-i;omega) (⟨(by omega),(by rw [h0i];rfl),Hd.fresh _ _,kV _ _,Nat.le_add_right _ _⟩) []
  rw [hb1]
  refine bF (aN (aN (aT (aA (jJ Tryz.f80 2 [2] [vz,vz] (aF (mD [(2,vz)] [] ?_)))))))
  exact mR (v:=vz) (fun _ hS=>⟨none,0,congrArg Ending.returned (by rw [← (show ([]:List UInt8)=mZ pB n by rw [show n=0 by have:=yF hb1;omega];rfl)];rfl),hS.bel,dU (show ([]:List UInt8)=mZ pB n by rw [show n=0 by have:=yF hb1;omega];rfl) Fs.nil⟩)
 rintro ⟨hi,hX,hC,hs,hle⟩
 change Ok Tryz.prog _ _ 17 [(2,vz),(3,(vs q X.length κ)),(6,(vs g n n)),(7,(vn n)),(8,(vn i))] _ [(q,(cL C 5))] (fun w=>Kb w g (xO n pa pc pB)∧rO w n pa pc pB∧True)
 refine jJ Tryz.f80 1 [2,3,6,7,8,9] [.bool (decide (((i:Nat):Int)<((n:Nat):Int)))] (aB ?_)
 refine oC (decide (((i:Nat):Int)<((n:Nat):Int))) (fun hb2=>?_) (fun hb2=>?_)
 ·
  rw [hb2]
  have:=yT hb2
  refine aG (aA (aB (aI ?_)))
  refine sS Tryz.f80 3 [2,3,5,6,7,8] [] (fun _=>let qa:Value:=.slice (pa i) (pB i).length (pc i);[jp g i,qa,qa]) (fun _=>[]) (cX (qS (fun _ w=>sO (g:=g) (c:=n) (k:=.i64) Tryz.underlying107 Tryz.sizeOf33 (show ((i:Nat):Int)=((i:Nat):Int) from rfl) (show i<n from (by omega)) w))<|cX (qF (v:=fun ρ=>(.slice (pa i) (pB i).length (pc i))) (fun _ _ _ hG=>mY (off:=i) Tryz.isAgg33 hG.fn.1 (uX (by omega))))<|jE [[]]) (fun _=>?_)
  refine rSf Tryz.f80 4 [2,3,6,7,8] [] (fun ρ=>let qa:=vs (nb ρ 2) (X++(pB i)).length (aZ ρ 2);[vs q X.length κ,.slice (pa i) (pB i).length (pc i),qa,qa]) (fun ρ=>[(2,(bD 0 (nb ρ 2) (cL (oc ρ 2) 5)))]) (fun ρ=>[(2,fun w=>Ap (oc ρ 2) (X++(pB i)) (aZ ρ 2))]) (fun _=>(fun w=>Kb w g (xO n pa pc pB)∧rO w n pa pc pB∧True)) (fun ρ=>Ap (oc ρ 2) (X++(pB i)) (aZ ρ 2)) (fun _ _ hF hf=>⟨hF,hf 2⟩) (cR [[],[]]<|cX (qM 0 (fun _ _ _ hG hg=>app_any (ty:=33) (g:=q) (C:=C) (c:=κ) (xs:=X) Tryz.underlying33 nH (Ap.mk' hC hle (by rw [hX];exact Nat.le_trans (catB_le pB hi) hl) hs) (Bs.src (tx:=33) Tryz.underlying33 (hG.fn.2.1 i (by omega))) (by have h1:=(sH pB (show i<n by omega));rw [← hX] at h1;exact Nat.le_trans h1 hl) hg))<|jE [[]]) (fun ρ11 ap11_2=>?_)
  refine aJ (aA ?_)
  refine rS Tryz.f80 2 [2,3,6,7,8] [] (fun _=>[vn (i+1),vn (i+1)]) (fun _=>[]) (jW (fun ρ=>(((i:Nat):Int)+1)) (fun _=>(i+1)) (fun _=>(aW i 1 (by omega)))<|jE [[]]) (fun _=>?_)
  exact mN (Sum.inr (i+1,nb ρ11 2,X++(pB i),oc ρ11 2,aZ ρ11 2)) (by show n-(i+1)<n-i;omega) (⟨(by omega),(by rw [hX];rfl),ap11_2.hd,ap11_2.size,ap11_2.le⟩) []
 rw [hb2]
 refine bF (aN (aN (aT (aA (jJ Tryz.f80 2 [2] [vs q X.length κ,vs q X.length κ] (aF (mD [(2,(vs q X.length κ))] [(q,(cL C 5))] ?_)))))))
 exact mR (v:=(vs q X.length κ)) (fun _ hS=>⟨some ⟨q,0,none⟩,κ,congrArg Ending.returned (by rw [← (show X=mZ pB n from hX.trans (by rw [show i=n by have:=yF hb2;omega]))]),hS.bel,dU (show X=mZ pB n from hX.trans (by rw [show i=n by have:=yF hb2;omega])) (hS.fresh (.head _) hC hle (by rw [hX];exact Nat.le_trans (catB_le pB hi) hl))⟩)
theorem scrow2_any (g:Nat) (a0:Option Addr) (c0:Nat) (B0:List UInt8) (a1:Option Addr) (c1:Nat) (B1:List UInt8) (hl:B0.length+B1.length≤140737488351232) (h0:0<B0.length) (w0:World) (hf0:Kb w0 g #[.slice a0 B0.length c0,.slice a1 B1.length c1]) (hf1:Bs w0 a0 c0 B0) (hf2:Bs w0 a1 c1 B1):Calls Tryz.prog 80 #[.slice (some ⟨g,0,none⟩) 2 2] w0 (fun ε w'=>∃ α κ,ε=.returned (.slice α (B0++B1).length κ)∧jG w0 w'∧Fs w0 w' α κ (B0++B1)):=wX g 2 (fun k=>[a0,a1].getD k none) (fun k=>[c0,c1].getD k 0) (fun k=>[B0,B1].getD k []) (by decide) (by show (([]++B0)++B1).length≤_;simp only [List.length_append,List.length_nil];omega) h0 w0 hf0 (allB2 hf1 hf2)
theorem scrow3_any (g:Nat) (a0:Option Addr) (c0:Nat) (B0:List UInt8) (a1:Option Addr) (c1:Nat) (B1:List UInt8) (a2:Option Addr) (c2:Nat) (B2:List UInt8) (hl:B0.length+B1.length+B2.length≤140737488351232) (h0:0<B0.length) (w0:World) (hf0:Kb w0 g #[.slice a0 B0.length c0,.slice a1 B1.length c1,.slice a2 B2.length c2]) (hf1:Bs w0 a0 c0 B0) (hf2:Bs w0 a1 c1 B1) (hf3:Bs w0 a2 c2 B2):Calls Tryz.prog 80 #[.slice (some ⟨g,0,none⟩) 3 3] w0 (fun ε w'=>∃ α κ,ε=.returned (.slice α ((B0++B1)++B2).length κ)∧jG w0 w'∧Fs w0 w' α κ ((B0++B1)++B2)):=wX g 3 (fun k=>[a0,a1,a2].getD k none) (fun k=>[c0,c1,c2].getD k 0) (fun k=>[B0,B1,B2].getD k []) (by decide) (by show ((([]++B0)++B1)++B2).length≤_;simp only [List.length_append,List.length_nil];omega) h0 w0 hf0 (allB3 hf1 hf2 hf3)
theorem scrow4_any (g:Nat) (a0:Option Addr) (c0:Nat) (B0:List UInt8) (a1:Option Addr) (c1:Nat) (B1:List UInt8) (a2:Option Addr) (c2:Nat) (B2:List UInt8) (a3:Option Addr) (c3:Nat) (B3:List UInt8) (hl:B0.length+B1.length+B2.length+B3.length≤140737488351232) (h0:0<B0.length) (w0:World) (hf0:Kb w0 g #[.slice a0 B0.length c0,.slice a1 B1.length c1,.slice a2 B2.length c2,.slice a3 B3.length c3]) (hf1:Bs w0 a0 c0 B0) (hf2:Bs w0 a1 c1 B1) (hf3:Bs w0 a2 c2 B2) (hf4:Bs w0 a3 c3 B3):Calls Tryz.prog 80 #[.slice (some ⟨g,0,none⟩) 4 4] w0 (fun ε w'=>∃ α κ,ε=.returned (.slice α (((B0++B1)++B2)++B3).length κ)∧jG w0 w'∧Fs w0 w' α κ (((B0++B1)++B2)++B3)):=wX g 4 (fun k=>[a0,a1,a2,a3].getD k none) (fun k=>[c0,c1,c2,c3].getD k 0) (fun k=>[B0,B1,B2,B3].getD k []) (by decide) (by show (((([]++B0)++B1)++B2)++B3).length≤_;simp only [List.length_append,List.length_nil];omega) h0 w0 hf0 (allB4 hf1 hf2 hf3 hf4)
theorem scrow5_any (g:Nat) (a0:Option Addr) (c0:Nat) (B0:List UInt8) (a1:Option Addr) (c1:Nat) (B1:List UInt8) (a2:Option Addr) (c2:Nat) (B2:List UInt8) (a3:Option Addr) (c3:Nat) (B3:List UInt8) (a4:Option Addr) (c4:Nat) (B4:List UInt8) (hl:B0.length+B1.length+B2.length+B3.length+B4.length≤140737488351232) (h0:0<B0.length) (w0:World) (hf0:Kb w0 g #[.slice a0 B0.length c0,.slice a1 B1.length c1,.slice a2 B2.length c2,.slice a3 B3.length c3,.slice a4 B4.length c4]) (hf1:Bs w0 a0 c0 B0) (hf2:Bs w0 a1 c1 B1) (hf3:Bs w0 a2 c2 B2) (hf4:Bs w0 a3 c3 B3) (hf5:Bs w0 a4 c4 B4):Calls Tryz.prog 80 #[.slice (some ⟨g,0,none⟩) 5 5] w0 (fun ε w'=>∃ α κ,ε=.returned (.slice α ((((B0++B1)++B2)++B3)++B4).length κ)∧jG w0 w'∧Fs w0 w' α κ ((((B0++B1)++B2)++B3)++B4)):=wX g 5 (fun k=>[a0,a1,a2,a3,a4].getD k none) (fun k=>[c0,c1,c2,c3,c4].getD k 0) (fun k=>[B0,B1,B2,B3,B4].getD k []) (by decide) (by show ((((([]++B0)++B1)++B2)++B3)++B4).length≤_;simp only [List.length_append,List.length_nil];omega) h0 w0 hf0 (allB5 hf1 hf2 hf3 hf4 hf5)
theorem push_any (a:Option Addr) (c:Nat) (B:List UInt8) (hl:B.length≤255) (w0:World) (hf0:Bs w0 a c B):Calls Tryz.prog 81 #[.slice a B.length c] w0 (fun ε w'=>∃ α κ,ε=.returned (.slice α (bQ B).length κ)∧jG w0 w'∧Fs w0 w' α κ (bQ B)):=by
 refine Calls.of_ok (n:=10) (F:=(fun w=>Bs w a c B∧True)) Tryz.func81 rfl rfl rfl (by simp) (hf0.pers0.and cO) ?_
 refine jJ Tryz.f81 1 [0,2] [vz] ?_
 refine iZ Tryz.f81 8 [2] [0,0] (fun ρ=>let qa:=([ob 1,ob ((B.length:Nat):Int)]:List UInt8);let qb:Value:=.slice (oa ρ 6) (qa++B).length (nb ρ 6);[.slice a B.length c,vn B.length,vy B.length,vs (nb ρ 3) qa.length 2,.slice a B.length c,vs (nb ρ 5) 2 2,qb,qb]) (fun ρ=>[(3,(nw ρ 3 (cL #[.int .u8 1,vy B.length] 5))),(5,(nw ρ 5 (cL #[vs (nb ρ 3) ([ob 1,ob ((B.length:Nat):Int)]:List UInt8).length 2,.slice a B.length c] 33)))]) (fun ρ=>[(6,fun w=>Fs w0 w (oa ρ 6) (nb ρ 6) (([ob 1,ob ((B.length:Nat):Int)]:List UInt8)++B))]) (fun ρ=>(fun w=>Bs w a c B∧Fs w0 w (oa ρ 6) (nb ρ 6) (([ob 1,ob ((B.length:Nat):Int)]:List UInt8)++B)∧True)) (fun _=>True) (fun _ _ hF hf=>⟨⟨hF.1,hf 6,trivial⟩,trivial⟩) (cR [[],[]]<|cA (v:=fun ρ=>(.int .u8 (IntKind.u8.wrap ((B.length:Nat):Int)))) (fun _=>(vy B.length)) (fun _=>congrArg (Value.int .u8) (u8N (by omega)))<|cR [[],[],[]]<|cX (qB (fun ρ _ w hG=>scrow2_any (nb ρ 5) (some ⟨nb ρ 3,0,none⟩) 2 ([ob 1,ob ((B.length:Nat):Int)]:List UInt8) a c B (by simp only [List.length_cons,List.length_nil];omega) (Nat.zero_lt_succ _) w (Kb.of_block (hG.kn (g:=nb ρ 5) (o:=(cL #[vs (nb ρ 3) ([ob 1,ob ((B.length:Nat):Int)]:List UInt8).length 2,.slice a B.length c] 33)) 40)) (Bs.of_hd (hG.kn (g:=nb ρ 3) (o:=(cL #[.int .u8 1,vy B.length] 5)) 24) (hd2 (by decide) (by omega)) (Nat.le_refl 2) (Nat.le_of_ble_eq_true rfl)) hG.fn.1))<|jE [[]]) (fun ρ2 _=>?_)
 refine aF (mD [(2,(.slice (oa ρ2 6) (([ob 1,ob ((B.length:Nat):Int)]:List UInt8)++B).length (nb ρ2 6)))] [] ?_)
 exact mR (v:=(.slice (oa ρ2 6) (([ob 1,ob ((B.length:Nat):Int)]:List UInt8)++B).length (nb ρ2 6))) (fun _ hS=>⟨oa ρ2 6,nb ρ2 6,congrArg Ending.returned (rfl),hS.bel,dU (rfl) hS.facts.now.2.1⟩)
theorem item_any (n:Nat) (hn:n<4294967296) (w0:World):Calls Tryz.prog 83 #[vu n] w0 (fun ε w'=>∃ α κ,ε=.returned (.slice α (iU n).length κ)∧jG w0 w'∧Fs w0 w' α κ (iU n)):=by
 refine Calls.of_ok (n:=14) (F:=(fun _=>True)) Tryz.func83 rfl rfl rfl (by simp) jT ?_
 refine jJ Tryz.f83 1 [0,2] [vz] (jJ Tryz.f83 1 [0,2,3] [vz] (aB (aI ?_)))
 refine oL (σ:=Nat ⊕ (Nat × Nat × (List UInt8) × (Array Value) × Nat)) (fun s=>match s with | Sum.inl m=>[(0,(vu m)),(2,vz),(3,vz)] | Sum.inr ⟨m,q,X,_,κ⟩=>[(0,(vu m)),(2,vz),(3,(vs q X.length κ))]) (fun s=>match s with | Sum.inl _=>[] | Sum.inr ⟨_,q,_,C,_⟩=>[(q,(cL C 5))]) (fun s=>match s with | Sum.inl m=>m | Sum.inr ⟨m,_,_,_,_⟩=>m)
   (fun s=>match s with | Sum.inl m=>(m=n) | Sum.inr ⟨m,_,X,C,κ⟩=>(X.length≤4)∧(m<2^(8*(4-X.length)))∧(X++itF (4-X.length) m=iU n)∧(Hd C X)∧(C.size=κ)∧(X.length≤κ)) (Sum.inl n) (rfl) [] ?_
 rintro (m | ⟨m,q,X,C,κ⟩)
 ·
  rintro hm0
  change Ok Tryz.prog _ _ 14 [(0,(vu m)),(2,vz),(3,vz)] _ [] (fun _=>True)
  refine aB (jJ Tryz.f83 2 [0,2,3,5] [vu m,.bool (decide (0<((m:Nat):Int)))] ?_)
  refine oC (decide (0<((m:Nat):Int))) (fun hb1=>?_) (fun hb1=>?_)
  ·
   rw [hb1]
   refine aG (aA (aB (aI ?_)))
   refine rS Tryz.f83 6 [0,2,3] [0,1] (fun ρ=>let qa:=([ob ((m%256:Nat):Int)]:List UInt8);let qb:=vs (nb ρ 4) qa.length (qa.length+aZ ρ 4);[vz,vu m,vy (m%256),vs (nb ρ 3) qa.length 1,qb,qb]) (fun ρ=>[(3,(nw ρ 3 (cL #[vy (m%256)] 5))),(4,(nw ρ 4 (cL ((bs ([ob ((m%256:Nat):Int)]:List UInt8)).toArray++zB (aZ ρ 4)) 5)))]) (cR [[],[]]<|cA (fun _=>(vy (m%256))) (fun _=>congrArg (Value.int .u8) (u8M m))<|cR [[]]<|cX (qN (fun _ ζ=>(vs (ζ.headD 0) ([ob ((m%256:Nat):Int)]:List UInt8).length (([ob ((m%256:Nat):Int)]:List UInt8).length+ζ.tail.headD 0))) (fun _ ζ=>(cL ((bs ([ob ((m%256:Nat):Int)]:List UInt8)).toArray++zB (ζ.tail.headD 0)) 5)) (fun ρ _ _ hG=>oU (ty:=33) Tryz.underlying33 nH (Bs.src (tx:=33) Tryz.underlying33 (Bs.of_hd (hG.kn (g:=nb ρ 3) (o:=(cL #[vy (m%256)] 5)) 24) (hd1 (by omega)) (Nat.le_refl 1) (Nat.le_of_ble_eq_true rfl))) (Nat.zero_lt_succ _) (Nat.le_of_ble_eq_true rfl)))<|jE [[]]) (fun ρ4=>?_)
   refine aJ (aA ?_)
   refine rS Tryz.f83 3 [0,2,3] [] (fun _=>[vu m,vu (m / 2^8),vu (m / 2^8)]) (fun _=>[]) (cR [[]]<|cB (a:=fun ρ=>(vu m)) (b:=fun ρ=>(.int .u64 8)) (v:=fun ρ=>(vu (m / 2^8))) .shr 41 (fun _ w=>gG (k:=.u32) (x:=m) (c:=8) (by rw [hm0];exact hn) w)<|jE [[]]) (fun _=>?_)
   exact mN (Sum.inr (m / 2^8,nb ρ4 4,([ob ((m%256:Nat):Int)]:List UInt8),(bs ([ob ((m%256:Nat):Int)]:List UInt8)).toArray++zB (aZ ρ4 4),([ob ((m%256:Nat):Int)]:List UInt8).length+aZ ρ4 4)) (it_lt hb1) (⟨(lY (X:=[]) hb1 (by decide) (by rw [hm0];exact Nat.lt_of_lt_of_le hn (by decide)) (by rw [hm0]<;>rfl)).1,(lY (X:=[]) hb1 (by decide) (by rw [hm0];exact Nat.lt_of_lt_of_le hn (by decide)) (by rw [hm0]<;>rfl)).2.1,(lY (X:=[]) hb1 (by decide) (by rw [hm0];exact Nat.lt_of_lt_of_le hn (by decide)) (by rw [hm0]<;>rfl)).2.2,Hd.fresh _ _,kV _ _,Nat.le_add_right _ _⟩) []
  rw [hb1]
  refine bF (aN (aN (aT (aA (jJ Tryz.f83 2 [2] [vz,vz] (aF (mD [(2,vz)] [] ?_)))))))
  exact mR (v:=vz) (fun _ hS=>⟨none,0,congrArg Ending.returned (by rw [← (show ([]:List UInt8)=iU n by rw [← hm0];exact (itF_z hb1).symm)]<;>rfl),hS.bel,dU (show ([]:List UInt8)=iU n by rw [← hm0];exact (itF_z hb1).symm) Fs.nil⟩)
 rintro ⟨hX4,hmb,hE,hC,hs,hle⟩
 change Ok Tryz.prog _ _ 14 [(0,(vu m)),(2,vz),(3,(vs q X.length κ))] _ [(q,(cL C 5))] (fun _=>True)
 refine aB (jJ Tryz.f83 2 [0,2,3,5] [vu m,.bool (decide (0<((m:Nat):Int)))] ?_)
 refine oC (decide (0<((m:Nat):Int))) (fun hb2=>?_) (fun hb2=>?_)
 ·
  rw [hb2]
  refine aG (aA (aB (aI ?_)))
  refine rSf Tryz.f83 6 [0,2,3] [1,0] (fun ρ=>let qa:=([ob ((m%256:Nat):Int)]:List UInt8);let qb:=vs (nb ρ 4) (X++qa).length (aZ ρ 4);[vs q X.length κ,vu m,vy (m%256),vs (nb ρ 3) qa.length 1,qb,qb]) (fun ρ=>[(3,(nw ρ 3 (cL #[vy (m%256)] 5))),(4,(bD 0 (nb ρ 4) (cL (oc ρ 4) 5)))]) (fun ρ=>[(4,fun w=>Ap (oc ρ 4) (X++([ob ((m%256:Nat):Int)]:List UInt8)) (aZ ρ 4))]) (fun _=>(fun _=>True)) (fun ρ=>Ap (oc ρ 4) (X++([ob ((m%256:Nat):Int)]:List UInt8)) (aZ ρ 4)) (fun _ _ hF hf=>⟨hF,hf 4⟩) (cR [[],[]]<|cA (fun _=>(vy (m%256))) (fun _=>congrArg (Value.int .u8) (u8M m))<|cR [[]]<|cX (qM 0 (fun ρ _ _ hG hg=>app_any (ty:=33) (g:=q) (C:=C) (c:=κ) (xs:=X) Tryz.underlying33 nH (Ap.mk' hC hle (Nat.le_trans hX4 (by decide)) hs) (Bs.src (tx:=33) Tryz.underlying33 (Bs.of_hd (hG.kn (g:=nb ρ 3) (o:=(cL #[vy (m%256)] 5)) 25) (hd1 (by omega)) (Nat.le_refl 1) (Nat.le_of_ble_eq_true rfl))) (by simp only [List.length_cons,List.length_nil];omega) hg))<|jE [[]]) (fun ρ8 ap8_4=>?_)
  refine aJ (aA ?_)
  refine rS Tryz.f83 3 [0,2,3] [] (fun _=>[vu m,vu (m / 2^8),vu (m / 2^8)]) (fun _=>[]) (cR [[]]<|cB (a:=fun ρ=>(vu m)) (b:=fun ρ=>(.int .u64 8)) (v:=fun ρ=>(vu (m / 2^8))) .shr 41 (fun _ w=>gG (k:=.u32) (x:=m) (c:=8) (it_32 hmb) w)<|jE [[]]) (fun _=>?_)
  exact mN (Sum.inr (m / 2^8,nb ρ8 4,X++([ob ((m%256:Nat):Int)]:List UInt8),oc ρ8 4,aZ ρ8 4)) (it_lt hb2) (⟨(lY hb2 hX4 hmb hE).1,(lY hb2 hX4 hmb hE).2.1,(lY hb2 hX4 hmb hE).2.2,ap8_4.hd,ap8_4.size,ap8_4.le⟩) []
 rw [hb2]
 refine bF (aN (aN (aT (aA (jJ Tryz.f83 2 [2] [vs q X.length κ,vs q X.length κ] (aF (mD [(2,(vs q X.length κ))] [(q,(cL C 5))] ?_)))))))
 exact mR (v:=(vs q X.length κ)) (fun _ hS=>⟨some ⟨q,0,none⟩,κ,congrArg Ending.returned (by rw [← (show X=iU n by rw [← hE,itF_z hb2];exact (List.append_nil X).symm)]<;>rfl),hS.bel,dU (show X=iU n by rw [← hE,itF_z hb2];exact (List.append_nil X).symm) (hS.fresh (.head _) hC hle (Nat.le_trans hX4 (by decide)))⟩)
theorem single_any (p:Nat) (_hp:p<M) (w0:World):Calls Tryz.prog 42 #[U p] w0 (fun ε w'=>∃ α κ,ε=.returned (.slice α (sgB p).length κ)∧jG w0 w'∧Fs w0 w' α κ (sgB p)):=by
 refine Calls.of_ok (n:=11) (F:=(fun _=>True)) Tryz.func42 rfl rfl rfl (by simp) jT ?_
 refine sS Tryz.f42 2 [1,2] [] (fun ρ=>[pt (nb ρ 0),vz]) (fun ρ=>[(0,(nw ρ 0 (cL (cU p) 39)))]) (jE [[],[]]) (fun _=>?_)
 refine sS Tryz.f42 4 [2,3] [0,1] (fun ρ=>[U p,.agg (hB p),pt (nb ρ 2),undef]) (fun ρ=>[(2,(nw ρ 2 (cL (hB 0) 43))),(3,(bD 17 (nb ρ 2) (cL (hB p) 43)))]) (cR [[0]]<|cC (fun _ w=>pW p w)<|jE [[],[17]]) (fun ρ2=>?_)
 refine iZ Tryz.f42 6 [2] [0,0,0] (fun ρ=>let qa:Value:=.slice (oa ρ 4) ((bQ (hL p))++([10]:List UInt8)).length (nb ρ 4);[vs (nb ρ2 2) (hL p).length 32,.slice (oa ρ 1) (bQ (hL p)).length (nb ρ 1),vs (nb ρ 2) ([10]:List UInt8).length 1,vs (nb ρ 3) 2 2,qa,qa]) (fun ρ=>[(2,(nw ρ 2 (cL #[.int .u8 10] 5))),(3,(nw ρ 3 (cL #[.slice (oa ρ 1) (bQ (hL p)).length (nb ρ 1),vs (nb ρ 2) ([10]:List UInt8).length 1] 33)))]) (fun ρ=>[(1,fun w=>Fs w0 w (oa ρ 1) (nb ρ 1) (bQ (hL p))),(4,fun w=>Fs w0 w (oa ρ 4) (nb ρ 4) ((bQ (hL p))++([10]:List UInt8)))]) (fun ρ=>(fun w=>Fs w0 w (oa ρ 1) (nb ρ 1) (bQ (hL p))∧Fs w0 w (oa ρ 4) (nb ρ 4) ((bQ (hL p))++([10]:List UInt8))∧True)) (fun _=>True) (fun _ _ _ hf=>⟨⟨hf 1,hf 4,trivial⟩,trivial⟩) (cR [[]]<|cX (qB (fun _ _ w hG=>push_any (some ⟨nb ρ2 2,0,none⟩) 32 (hL p) (by rw [aO];decide) w (Bs.of_hd (c:=32) (hG.kn (g:=nb ρ2 2) (o:=(cL (hB p) 43)) 0) (kP _) (Nat.le_refl _) (Nat.le_of_ble_eq_true rfl))))<|cR [[],[]]<|cX (qB (fun ρ _ w hG=>scrow2_any (nb ρ 3) (oa ρ 1) (nb ρ 1) (bQ (hL p)) (some ⟨nb ρ 2,0,none⟩) 1 ([10]:List UInt8) (by simp only [List.length_cons,List.length_nil,eG,aO];omega) (qY _) w (Kb.of_block (hG.kn (g:=nb ρ 3) (o:=(cL #[.slice (oa ρ 1) (bQ (hL p)).length (nb ρ 1),vs (nb ρ 2) ([10]:List UInt8).length 1] 33)) 25)) (show Fs w0 w (oa ρ 1) (nb ρ 1) (bQ (hL p)) from (hG.facts 1 rfl).now).1 (Bs.of_hd (hG.kn (g:=nb ρ 2) (o:=(cL #[.int .u8 10] 5)) 17) (rfl:Hd #[.int .u8 10] ([10]:List UInt8)) (Nat.le_refl 1) (Nat.le_of_ble_eq_true rfl))))<|jE [[]]) (fun ρ3 _=>?_)
 refine aF (mD [(2,(.slice (oa ρ3 4) ((bQ (hL p))++([10]:List UInt8)).length (nb ρ3 4)))] [] ?_)
 exact mR (v:=(.slice (oa ρ3 4) ((bQ (hL p))++([10]:List UInt8)).length (nb ρ3 4))) (fun _ hS=>⟨oa ρ3 4,nb ρ3 4,congrArg Ending.returned (rfl),hS.bel,dU (rfl) hS.facts.now.2.1⟩)
theorem after_any (n:Nat) (a:Option Addr) (c:Nat) (B:List UInt8) (hn:n<4294967296) (hl:B.length≤1000000) (w0:World) (hf0:Bs w0 a c B):Calls Tryz.prog 44 #[vu n,.slice a B.length c] w0 (fun ε w'=>∃ α κ,ε=.returned (.slice α (afB n B).length κ)∧jG w0 w'∧Fs w0 w' α κ (afB n B)):=by
 refine Calls.of_ok (n:=12) (F:=(fun w=>Bs w a c B∧True)) Tryz.func44 rfl rfl rfl (by simp) (hf0.pers0.and cO) ?_
 refine jJ Tryz.f44 1 [0,1,4] [vz] ?_
 refine iZ Tryz.f44 8 [4] [0,0] (fun ρ=>let qa:Value:=.slice (oa ρ 6) (((bQ (iU n))++([12,3]:List UInt8))++B).length (nb ρ 6);[vu n,.slice (oa ρ 1) (iU n).length (nb ρ 1),.slice (oa ρ 2) (bQ (iU n)).length (nb ρ 2),vs (nb ρ 3) ([12,3]:List UInt8).length 2,.slice a B.length c,vs (nb ρ 5) 3 3,qa,qa]) (fun ρ=>[(3,(nw ρ 3 (cL #[.int .u8 12,.int .u8 3] 5))),(5,(nw ρ 5 (cL #[.slice (oa ρ 2) (bQ (iU n)).length (nb ρ 2),vs (nb ρ 3) ([12,3]:List UInt8).length 2,.slice a B.length c] 33)))]) (fun ρ=>[(1,fun w=>Fs w0 w (oa ρ 1) (nb ρ 1) (iU n)),(2,fun w=>Fs w0 w (oa ρ 2) (nb ρ 2) (bQ (iU n))),(6,fun w=>Fs w0 w (oa ρ 6) (nb ρ 6) (((bQ (iU n))++([12,3]:List UInt8))++B))]) (fun ρ=>(fun w=>Bs w a c B∧Fs w0 w (oa ρ 1) (nb ρ 1) (iU n)∧Fs w0 w (oa ρ 2) (nb ρ 2) (bQ (iU n))∧Fs w0 w (oa ρ 6) (nb ρ 6) (((bQ (iU n))++([12,3]:List UInt8))++B)∧True)) (fun _=>True) (fun _ _ hF hf=>⟨⟨hF.1,hf 1,hf 2,hf 6,trivial⟩,trivial⟩) (cR [[]]<|cX (qB (fun _ _ w _=>item_any n hn w))<|cX (qB (fun ρ _ w hG=>push_any (oa ρ 1) (nb ρ 1) (iU n) (by have:=pO n;omega) w (show Fs w0 w (oa ρ 1) (nb ρ 1) (iU n) from (hG.facts 1 rfl).now).1))<|cR [[],[],[]]<|cX (qB (fun ρ _ w hG=>scrow3_any (nb ρ 5) (oa ρ 2) (nb ρ 2) (bQ (iU n)) (some ⟨nb ρ 3,0,none⟩) 2 ([12,3]:List UInt8) a c B (by simp only [List.length_cons,List.length_nil,eG];have:=pO n;omega) (qY _) w (Kb.of_block (hG.kn (g:=nb ρ 5) (o:=(cL #[.slice (oa ρ 2) (bQ (iU n)).length (nb ρ 2),vs (nb ρ 3) ([12,3]:List UInt8).length 2,.slice a B.length c] 33)) 40)) (show Fs w0 w (oa ρ 2) (nb ρ 2) (bQ (iU n)) from (hG.facts 2 rfl).now).1 (Bs.of_hd (hG.kn (g:=nb ρ 3) (o:=(cL #[.int .u8 12,.int .u8 3] 5)) 24) (rfl:Hd #[.int .u8 12,.int .u8 3] ([12,3]:List UInt8)) (Nat.le_refl 2) (Nat.le_of_ble_eq_true rfl)) hG.fn.1))<|jE [[]]) (fun ρ2 _=>?_)
 refine aF (mD [(4,(.slice (oa ρ2 6) (((bQ (iU n))++([12,3]:List UInt8))++B).length (nb ρ2 6)))] [] ?_)
 exact mR (v:=(.slice (oa ρ2 6) (((bQ (iU n))++([12,3]:List UInt8))++B).length (nb ρ2 6))) (fun _ hS=>⟨oa ρ2 6,nb ρ2 6,congrArg Ending.returned (rfl),hS.bel,dU (rfl) hS.facts.now.2.2.2.1⟩)
theorem older_any (n:Nat) (a:Option Addr) (c:Nat) (B:List UInt8) (hn:n<4294967296) (hl:B.length≤1000000) (w0:World) (hf0:Bs w0 a c B):Calls Tryz.prog 45 #[vu n,.slice a B.length c] w0 (fun ε w'=>∃ α κ,ε=.returned (.slice α (olB n B).length κ)∧jG w0 w'∧Fs w0 w' α κ (olB n B)):=by
 refine Calls.of_ok (n:=12) (F:=(fun w=>Bs w a c B∧True)) Tryz.func45 rfl rfl rfl (by simp) (hf0.pers0.and cO) ?_
 refine jJ Tryz.f45 1 [0,1,4] [vz] ?_
 refine iZ Tryz.f45 8 [4] [0,0] (fun ρ=>let qa:Value:=.slice (oa ρ 6) (((bQ (iU n))++([13,3]:List UInt8))++B).length (nb ρ 6);[vu n,.slice (oa ρ 1) (iU n).length (nb ρ 1),.slice (oa ρ 2) (bQ (iU n)).length (nb ρ 2),vs (nb ρ 3) ([13,3]:List UInt8).length 2,.slice a B.length c,vs (nb ρ 5) 3 3,qa,qa]) (fun ρ=>[(3,(nw ρ 3 (cL #[.int .u8 13,.int .u8 3] 5))),(5,(nw ρ 5 (cL #[.slice (oa ρ 2) (bQ (iU n)).length (nb ρ 2),vs (nb ρ 3) ([13,3]:List UInt8).length 2,.slice a B.length c] 33)))]) (fun ρ=>[(1,fun w=>Fs w0 w (oa ρ 1) (nb ρ 1) (iU n)),(2,fun w=>Fs w0 w (oa ρ 2) (nb ρ 2) (bQ (iU n))),(6,fun w=>Fs w0 w (oa ρ 6) (nb ρ 6) (((bQ (iU n))++([13,3]:List UInt8))++B))]) (fun ρ=>(fun w=>Bs w a c B∧Fs w0 w (oa ρ 1) (nb ρ 1) (iU n)∧Fs w0 w (oa ρ 2) (nb ρ 2) (bQ (iU n))∧Fs w0 w (oa ρ 6) (nb ρ 6) (((bQ (iU n))++([13,3]:List UInt8))++B)∧True)) (fun _=>True) (fun _ _ hF hf=>⟨⟨hF.1,hf 1,hf 2,hf 6,trivial⟩,trivial⟩) (cR [[]]<|cX (qB (fun _ _ w _=>item_any n hn w))<|cX (qB (fun ρ _ w hG=>push_any (oa ρ 1) (nb ρ 1) (iU n) (by have:=pO n;omega) w (show Fs w0 w (oa ρ 1) (nb ρ 1) (iU n) from (hG.facts 1 rfl).now).1))<|cR [[],[],[]]<|cX (qB (fun ρ _ w hG=>scrow3_any (nb ρ 5) (oa ρ 2) (nb ρ 2) (bQ (iU n)) (some ⟨nb ρ 3,0,none⟩) 2 ([13,3]:List UInt8) a c B (by simp only [List.length_cons,List.length_nil,eG];have:=pO n;omega) (qY _) w (Kb.of_block (hG.kn (g:=nb ρ 5) (o:=(cL #[.slice (oa ρ 2) (bQ (iU n)).length (nb ρ 2),vs (nb ρ 3) ([13,3]:List UInt8).length 2,.slice a B.length c] 33)) 40)) (show Fs w0 w (oa ρ 2) (nb ρ 2) (bQ (iU n)) from (hG.facts 2 rfl).now).1 (Bs.of_hd (hG.kn (g:=nb ρ 3) (o:=(cL #[.int .u8 13,.int .u8 3] 5)) 24) (rfl:Hd #[.int .u8 13,.int .u8 3] ([13,3]:List UInt8)) (Nat.le_refl 2) (Nat.le_of_ble_eq_true rfl)) hG.fn.1))<|jE [[]]) (fun ρ2 _=>?_)
 refine aF (mD [(4,(.slice (oa ρ2 6) (((bQ (iU n))++([13,3]:List UInt8))++B).length (nb ρ2 6)))] [] ?_)
 exact mR (v:=(.slice (oa ρ2 6) (((bQ (iU n))++([13,3]:List UInt8))++B).length (nb ρ2 6))) (fun _ hS=>⟨oa ρ2 6,nb ρ2 6,congrArg Ending.returned (rfl),hS.bel,dU (rfl) hS.facts.now.2.2.2.1⟩)
theorem hashed_any (h:Nat) (a:Option Addr) (c:Nat) (B:List UInt8) (_hh:h<M) (hl:B.length≤1000000) (w0:World) (hf0:Bs w0 a c B):Calls Tryz.prog 46 #[.agg (hB h),.slice a B.length c] w0 (fun ε w'=>∃ α κ,ε=.returned (.slice α (hsB h B).length κ)∧jG w0 w'∧Fs w0 w' α κ (hsB h B)):=by
 refine Calls.of_ok (n:=12) (F:=(fun w=>Bs w a c B∧True)) Tryz.func46 rfl rfl rfl (by simp) (hf0.pers0.and cO) ?_
 refine sS Tryz.f46 2 [1,2,4] [] (fun ρ=>[pt (nb ρ 0),vz]) (fun ρ=>[(0,(nw ρ 0 (cL (hB h) 43)))]) (jE [[],[]]) (fun ρ1=>?_)
 refine iZ Tryz.f46 8 [4] [0,0,0,0] (fun ρ=>let qa:Value:=.slice (oa ρ 6) (((([8]:List UInt8)++(bQ (hL h)))++([5,7]:List UInt8))++B).length (nb ρ 6);[vs (nb ρ 0) ([8]:List UInt8).length 1,vs (nb ρ1 0) (hL h).length 32,.slice (oa ρ 2) (bQ (hL h)).length (nb ρ 2),vs (nb ρ 3) ([5,7]:List UInt8).length 2,.slice a B.length c,vs (nb ρ 5) 4 4,qa,qa]) (fun ρ=>[(0,(nw ρ 0 (cL #[.int .u8 8] 5))),(3,(nw ρ 3 (cL #[.int .u8 5,.int .u8 7] 5))),(5,(nw ρ 5 (cL #[vs (nb ρ 0) ([8]:List UInt8).length 1,.slice (oa ρ 2) (bQ (hL h)).length (nb ρ 2),vs (nb ρ 3) ([5,7]:List UInt8).length 2,.slice a B.length c] 33)))]) (fun ρ=>[(2,fun w=>Fs w0 w (oa ρ 2) (nb ρ 2) (bQ (hL h))),(6,fun w=>Fs w0 w (oa ρ 6) (nb ρ 6) (((([8]:List UInt8)++(bQ (hL h)))++([5,7]:List UInt8))++B))]) (fun ρ=>(fun w=>Bs w a c B∧Fs w0 w (oa ρ 2) (nb ρ 2) (bQ (hL h))∧Fs w0 w (oa ρ 6) (nb ρ 6) (((([8]:List UInt8)++(bQ (hL h)))++([5,7]:List UInt8))++B)∧True)) (fun _=>True) (fun _ _ hF hf=>⟨⟨hF.1,hf 2,hf 6,trivial⟩,trivial⟩) (cR [[],[]]<|cX (qB (fun _ _ w hG=>push_any (some ⟨nb ρ1 0,0,none⟩) 32 (hL h) (by rw [aO];decide) w (Bs.of_hd (c:=32) (hG.kn (g:=nb ρ1 0) (o:=(cL (hB h) 43)) 0) (kP _) (Nat.le_refl _) (Nat.le_of_ble_eq_true rfl))))<|cR [[],[],[]]<|cX (qB (fun ρ _ w hG=>scrow4_any (nb ρ 5) (some ⟨nb ρ 0,0,none⟩) 1 ([8]:List UInt8) (oa ρ 2) (nb ρ 2) (bQ (hL h)) (some ⟨nb ρ 3,0,none⟩) 2 ([5,7]:List UInt8) a c B (by simp only [List.length_cons,List.length_nil,eG,aO];omega) (Nat.zero_lt_succ _) w (Kb.of_block (hG.kn (g:=nb ρ 5) (o:=(cL #[vs (nb ρ 0) ([8]:List UInt8).length 1,.slice (oa ρ 2) (bQ (hL h)).length (nb ρ 2),vs (nb ρ 3) ([5,7]:List UInt8).length 2,.slice a B.length c] 33)) 41)) (Bs.of_hd (hG.kn (g:=nb ρ 0) (o:=(cL #[.int .u8 8] 5)) 1) (rfl:Hd #[.int .u8 8] ([8]:List UInt8)) (Nat.le_refl 1) (Nat.le_of_ble_eq_true rfl)) (show Fs w0 w (oa ρ 2) (nb ρ 2) (bQ (hL h)) from (hG.facts 2 rfl).now).1 (Bs.of_hd (hG.kn (g:=nb ρ 3) (o:=(cL #[.int .u8 5,.int .u8 7] 5)) 25) (rfl:Hd #[.int .u8 5,.int .u8 7] ([5,7]:List UInt8)) (Nat.le_refl 2) (Nat.le_of_ble_eq_true rfl)) hG.fn.1))<|jE [[]]) (fun ρ2 _=>?_)
 refine aF (mD [(4,(.slice (oa ρ2 6) (((([8]:List UInt8)++(bQ (hL h)))++([5,7]:List UInt8))++B).length (nb ρ2 6)))] [] ?_)
 exact mR (v:=(.slice (oa ρ2 6) (((([8]:List UInt8)++(bQ (hL h)))++([5,7]:List UInt8))++B).length (nb ρ2 6))) (fun _ hS=>⟨oa ρ2 6,nb ρ2 6,congrArg Ending.returned (rfl),hS.bel,dU (rfl) hS.facts.now.2.2.1⟩)
theorem either_any (a:Option Addr) (c:Nat) (B:List UInt8) (a2:Option Addr) (c2:Nat) (S:List UInt8) (hl:B.length≤1000000) (hl2:S.length≤1000000) (w0:World) (hf0:Bs w0 a c B) (hf1:Bs w0 a2 c2 S):Calls Tryz.prog 47 #[.slice a B.length c,.slice a2 S.length c2] w0 (fun ε w'=>∃ α κ,ε=.returned (.slice α (eiB B S).length κ)∧jG w0 w'∧Fs w0 w' α κ (eiB B S)):=by
 refine Calls.of_ok (n:=12) (F:=(fun w=>Bs w a c B∧Bs w a2 c2 S∧True)) Tryz.func47 rfl rfl rfl (by simp) (hf0.pers0.and (hf1.pers0.and cO)) ?_
 refine jJ Tryz.f47 1 [0,1,4] [vz] ?_
 refine iZ Tryz.f47 8 [4] [0,0,0,0] (fun ρ=>let qa:Value:=.slice (oa ρ 6) ((((([14]:List UInt8)++B)++([15]:List UInt8))++S)++([16]:List UInt8)).length (nb ρ 6);[vs (nb ρ 0) ([14]:List UInt8).length 1,.slice a B.length c,vs (nb ρ 2) ([15]:List UInt8).length 1,.slice a2 S.length c2,vs (nb ρ 4) ([16]:List UInt8).length 1,vs (nb ρ 5) 5 5,qa,qa]) (fun ρ=>[(0,(nw ρ 0 (cL #[.int .u8 14] 5))),(2,(nw ρ 2 (cL #[.int .u8 15] 5))),(4,(nw ρ 4 (cL #[.int .u8 16] 5))),(5,(nw ρ 5 (cL #[vs (nb ρ 0) ([14]:List UInt8).length 1,.slice a B.length c,vs (nb ρ 2) ([15]:List UInt8).length 1,.slice a2 S.length c2,vs (nb ρ 4) ([16]:List UInt8).length 1] 33)))]) (fun ρ=>[(6,fun w=>Fs w0 w (oa ρ 6) (nb ρ 6) ((((([14]:List UInt8)++B)++([15]:List UInt8))++S)++([16]:List UInt8)))]) (fun ρ=>(fun w=>Bs w a c B∧Bs w a2 c2 S∧Fs w0 w (oa ρ 6) (nb ρ 6) ((((([14]:List UInt8)++B)++([15]:List UInt8))++S)++([16]:List UInt8))∧True)) (fun _=>True) (fun _ _ hF hf=>⟨⟨hF.1,hF.2.1,hf 6,trivial⟩,trivial⟩) (cR [[],[],[],[],[],[]]<|cX (qB (fun ρ _ w hG=>scrow5_any (nb ρ 5) (some ⟨nb ρ 0,0,none⟩) 1 ([14]:List UInt8) a c B (some ⟨nb ρ 2,0,none⟩) 1 ([15]:List UInt8) a2 c2 S (some ⟨nb ρ 4,0,none⟩) 1 ([16]:List UInt8) (by simp only [List.length_cons,List.length_nil];omega) (Nat.zero_lt_succ _) w (Kb.of_block (hG.kn (g:=nb ρ 5) (o:=(cL #[vs (nb ρ 0) ([14]:List UInt8).length 1,.slice a B.length c,vs (nb ρ 2) ([15]:List UInt8).length 1,.slice a2 S.length c2,vs (nb ρ 4) ([16]:List UInt8).length 1] 33)) 40)) (Bs.of_hd (hG.kn (g:=nb ρ 0) (o:=(cL #[.int .u8 14] 5)) 0) (rfl:Hd #[.int .u8 14] ([14]:List UInt8)) (Nat.le_refl 1) (Nat.le_of_ble_eq_true rfl)) hG.fn.1 (Bs.of_hd (hG.kn (g:=nb ρ 2) (o:=(cL #[.int .u8 15] 5)) 16) (rfl:Hd #[.int .u8 15] ([15]:List UInt8)) (Nat.le_refl 1) (Nat.le_of_ble_eq_true rfl)) hG.fn.2.1 (Bs.of_hd (hG.kn (g:=nb ρ 4) (o:=(cL #[.int .u8 16] 5)) 32) (rfl:Hd #[.int .u8 16] ([16]:List UInt8)) (Nat.le_refl 1) (Nat.le_of_ble_eq_true rfl))))<|jE [[]]) (fun ρ2 _=>?_)
 refine aF (mD [(4,(.slice (oa ρ2 6) ((((([14]:List UInt8)++B)++([15]:List UInt8))++S)++([16]:List UInt8)).length (nb ρ2 6)))] [] ?_)
 exact mR (v:=(.slice (oa ρ2 6) ((((([14]:List UInt8)++B)++([15]:List UInt8))++S)++([16]:List UInt8)).length (nb ρ2 6))) (fun _ hS=>⟨oa ρ2 6,nb ρ2 6,congrArg Ending.returned (rfl),hS.bel,dU (rfl) hS.facts.now.2.2.1⟩)
theorem known1_any  (w0:World):Calls Tryz.prog 139 #[vi 1] w0 (jR vT w0):=by
 refine Calls.of_ok (n:=9) (F:=(fun _=>True)) Tryz.func139 rfl rfl rfl (by simp) jT ?_
 refine jJ Tryz.f139 1 [0,2] [vF] (jJ Tryz.f139 7 [2] [vi 1,vT,vT,vi 1,vT,vT,vT] (aF ?_))
 exact mR (v:=vT) (fun _ hS=>⟨rfl,hS.bel⟩)
theorem known11_any  (w0:World):Calls Tryz.prog 139 #[vi 11] w0 (jR vT w0):=by
 refine Calls.of_ok (n:=9) (F:=(fun _=>True)) Tryz.func139 rfl rfl rfl (by simp) jT ?_
 refine jJ Tryz.f139 1 [0,2] [vF] (jJ Tryz.f139 7 [2] [vi 11,vT,vT,vi 11,vT,vT,vT] (aF ?_))
 exact mR (v:=vT) (fun _ hS=>⟨rfl,hS.bel⟩)
theorem inrange2 (m:Int) (hm:1≤m∧m≤2) (w0:World):Calls Tryz.prog 140 #[vi m,vi 2] w0 (jR vT w0):=by
 refine Calls.of_ok (n:=20) (F:=(fun _=>True)) Tryz.func140 rfl rfl rfl (by simp) jT ?_
 refine jJ Tryz.f140 1 [0,1,4] [vF] ?_
 refine sS Tryz.f140 16 [4] [] (fun _=>[vi 2,vT,vT,vi 2,vT,vT,vT,vi m,vT,vT,vT,vi m,vi 2,vT,vT,vT]) (fun _=>[]) (cR [[],[],[],[],[],[],[],[]]<|jQ (fun ρ=>(decide (1≤m))) true (fun _=>(decide_eq_true (by omega)))<|cR [[],[],[],[]]<|jQ (fun ρ=>(decide (m≤2))) true (fun _=>(decide_eq_true (by omega)))<|jE [[],[]]) (fun _=>?_)
 refine aF ?_
 exact mR (v:=vT) (fun _ hS=>⟨rfl,hS.bel⟩)
theorem checkm2 (m:Int) (hm:1≤m∧m≤2) (w0:World):Calls Tryz.prog 111 #[.agg #[vi 11,vz,vi m,vi 2]] w0 (jR (vi 0) w0):=by
 refine Calls.of_ok (n:=49) (F:=(fun _=>True)) Tryz.func111 rfl rfl rfl (by simp) jT ?_
 refine sS Tryz.f111 2 [1,2] [] (fun ρ=>[pt (nb ρ 0),vi 0]) (fun ρ=>[(0,(nw ρ 0 (cL #[vi 11,vz,vi m,vi 2] 100)))]) (jE [[],[]]) (fun ρ1=>?_)
 refine aB (aI ?_)
 refine sS Tryz.f111 5 [1,2,3] [] (fun _=>[pt (nb ρ1 0),vi 11,vT,vF,vF]) (fun _=>[]) (cR [[],[0]]<|cC (fun _ w=>known11_any w)<|jE [[],[]]) (fun _=>?_)
 refine oN ?_
 refine jM Tryz.f111 10 [1,2,8] [] [pt (nb ρ1 0),vi 11,vT,vT,jp (nb ρ1 0) 1,vz,vi 0,vF,vF,vF] [[],[0],[],[],[],[0],[],[],[],[]] ?_
 refine oN ?_
 refine jM Tryz.f111 14 [1,2,18] [] [pt (nb ρ1 0),vi 11,vF,vF,undef,undef,undef,undef,undef,undef,undef,undef,vF,vF] [[],[0],[],[],[],[],[],[],[],[],[],[],[],[]] ?_
 refine oN ?_
 refine jM Tryz.f111 5 [1,2,32] [] [jp (nb ρ1 0) 1,vz,vi 0,vF,vF] [[],[0],[],[],[]] ?_
 refine oN ?_
 refine sS Tryz.f111 12 [2,37] [0] (fun _=>[pt (nb ρ1 0),vi 11,vT,vT,jp (nb ρ1 0) 2,vi m,jp (nb ρ1 0) 3,vi 2,vT,vF,vF,vF]) (fun _=>[]) (cR [[],[0],[],[],[],[0],[],[0]]<|cC (fun _ w=>inrange2 m hm w)<|jE [[],[],[]]) (fun _=>?_)
 refine oN ?_
 refine aG (aJ (aA (jJ Tryz.f111 1 [2] [vi 0] (aF ?_))))
 exact mR (v:=(vi 0)) (fun _ hS=>⟨rfl,hS.bel⟩)
theorem encodem2 (m:Int) (hm:1≤m∧m≤2) (w0:World):Calls Tryz.prog 112 #[.agg #[vi 11,vz,vi m,vi 2]] w0 (fun ε w'=>∃ α κ,ε=.returned (.slice α ([ob 11,ob m,ob 2]).length κ)∧jG w0 w'∧Fs w0 w' α κ ([ob 11,ob m,ob 2])):=by
 refine Calls.of_ok (n:=23) (F:=(fun _=>True)) Tryz.func112 rfl rfl rfl (by simp) jT ?_
 refine sS Tryz.f112 2 [1,2] [] (fun ρ=>[pt (nb ρ 0),vz]) (fun ρ=>[(0,(nw ρ 0 (cL #[vi 11,vz,vi m,vi 2] 100)))]) (jE [[],[]]) (fun ρ1=>?_)
 refine aB (jM Tryz.f112 2 [1,2,4] [] [pt (nb ρ1 0),vi 11] [[],[0]] (aI (jJ Tryz.f112 2 [1,2,4,5] [vF,vF] ?_)))
 refine oN ?_
 refine jJ Tryz.f112 2 [1,2,10] [vT,vT] ?_
 refine oY ?_
 refine sS Tryz.f112 8 [1,2] [] (fun ρ=>let qa:=vs (nb ρ 6) ([ob 11,ob m,ob 2]:List UInt8).length 3;[jp (nb ρ1 0) 2,vi m,.int .u8 m,jp (nb ρ1 0) 3,vi 2,.int .u8 2,qa,qa]) (fun ρ=>[(6,(nw ρ 6 (cL #[.int .u8 11,.int .u8 m,.int .u8 2] 5)))]) (cR [[],[0]]<|cA (v:=fun ρ=>(.int .u8 (IntKind.u8.wrap m))) (fun _=>(.int .u8 m)) (fun _=>congrArg (Value.int .u8) (u8I (by omega)))<|jE [[],[0],[],[],[]]) (fun ρ5=>?_)
 refine aF (aP (aC (mD [(1,(pt (nb ρ1 0))),(2,(vs (nb ρ5 6) ([ob 11,ob m,ob 2]:List UInt8).length 3))] [(nb ρ1 0,(cL #[vi 11,vz,vi m,vi 2] 100)),(nb ρ5 6,(cL #[.int .u8 11,.int .u8 m,.int .u8 2] 5))] ?_)))
 exact mR (v:=(vs (nb ρ5 6) ([ob 11,ob m,ob 2]:List UInt8).length 3)) (fun _ hS=>⟨some ⟨nb ρ5 6,0,none⟩,3,congrArg Ending.returned (rfl),hS.bel,dU (rfl) (hS.fresh (.tail _ (.head _)) (hd3 (by decide) (by omega) (by decide)) (Nat.le_refl 3) (Nat.le_of_ble_eq_true rfl))⟩)
theorem check1_any (a:Option Addr) (c:Nat) (B:List UInt8) (hl:B.length≤255) (w0:World):Calls Tryz.prog 111 #[.agg #[vi 1,.slice a B.length c,vi 0,vi 0]] w0 (jR (vi 0) w0):=by
 refine Calls.of_ok (n:=49) (F:=(fun _=>True)) Tryz.func111 rfl rfl rfl (by simp) jT ?_
 refine sS Tryz.f111 2 [1,2] [] (fun ρ=>[pt (nb ρ 0),vi 0]) (fun ρ=>[(0,(nw ρ 0 (cL #[vi 1,.slice a B.length c,vi 0,vi 0] 100)))]) (jE [[],[]]) (fun ρ1=>?_)
 refine aB (aI ?_)
 refine sS Tryz.f111 5 [1,2,3] [] (fun _=>[pt (nb ρ1 0),vi 1,vT,vF,vF]) (fun _=>[]) (cR [[],[0]]<|cC (fun _ w=>known1_any w)<|jE [[],[]]) (fun _=>?_)
 refine oN ?_
 refine jM Tryz.f111 10 [1,2,8] [] [pt (nb ρ1 0),vi 1,vF,vF,undef,undef,undef,undef,vF,vF] [[],[0],[],[],[],[],[],[],[],[]] ?_
 refine oN ?_
 refine jM Tryz.f111 14 [1,2,18] [] [pt (nb ρ1 0),vi 1,vT,vT,jp (nb ρ1 0) 2,vi 0,vF,vF,jp (nb ρ1 0) 3,vi 0,vF,vF,vF,vF] [[],[0],[],[],[],[0],[],[],[],[0],[],[],[],[]] ?_
 refine oN ?_
 refine sS Tryz.f111 5 [1,2,32] [] (fun _=>[jp (nb ρ1 0) 1,.slice a B.length c,vn B.length,vF,vF]) (fun _=>[]) (cR [[],[0],[]]<|jQ (fun ρ=>(decide (255<((B.length:Nat):Int)))) false (fun _=>(decide_eq_false (by omega)))<|jE [[]]) (fun _=>?_)
 refine oN ?_
 refine jM Tryz.f111 12 [2,37] [0] [pt (nb ρ1 0),vi 1,vF,vF,undef,undef,undef,undef,undef,undef,vF,vF] [[],[0],[],[],[],[],[],[],[],[],[],[]] ?_
 refine oN ?_
 refine aG (aJ (aA (jJ Tryz.f111 1 [2] [vi 0] (aF ?_))))
 exact mR (v:=(vi 0)) (fun _ hS=>⟨rfl,hS.bel⟩)
theorem encode1_any (a:Option Addr) (c:Nat) (B:List UInt8) (hl:B.length≤255) (w0:World) (hf0:Bs w0 a c B):Calls Tryz.prog 112 #[.agg #[vi 1,.slice a B.length c,vi 0,vi 0]] w0 (fun ε w'=>∃ α κ,ε=.returned (.slice α (bQ B).length κ)∧jG w0 w'∧Fs w0 w' α κ (bQ B)):=by
 refine Calls.of_ok (n:=23) (F:=(fun w=>Bs w a c B∧True)) Tryz.func112 rfl rfl rfl (by simp) (hf0.pers0.and cO) ?_
 refine sS Tryz.f112 2 [1,2] [] (fun ρ=>[pt (nb ρ 0),vz]) (fun ρ=>[(0,(nw ρ 0 (cL #[vi 1,.slice a B.length c,vi 0,vi 0] 100)))]) (jE [[],[]]) (fun ρ1=>?_)
 refine aB (jM Tryz.f112 2 [1,2,4] [] [pt (nb ρ1 0),vi 1] [[],[0]] (aI (jJ Tryz.f112 2 [1,2,4,5] [vT,vT] ?_)))
 refine oY ?_
 refine iZ Tryz.f112 4 [1,2] [] (fun ρ=>let qa:Value:=.slice (oa ρ 2) (bQ B).length (nb ρ 2);[jp (nb ρ1 0) 1,.slice a B.length c,qa,qa]) (fun _=>[]) (fun ρ=>[(2,fun w=>Fs w0 w (oa ρ 2) (nb ρ 2) (bQ B))]) (fun ρ=>(fun w=>Bs w a c B∧Fs w0 w (oa ρ 2) (nb ρ 2) (bQ B)∧True)) (fun _=>True) (fun _ _ hF hf=>⟨⟨hF.1,hf 2,trivial⟩,trivial⟩) (cR [[],[0]]<|cX (qB (fun _ _ w hG=>push_any a c B hl w hG.fn.1))<|jE [[]]) (fun ρ4 _=>?_)
 refine aF (aP (aC (mD [(1,(pt (nb ρ1 0))),(2,(.slice (oa ρ4 2) (bQ B).length (nb ρ4 2)))] [(nb ρ1 0,(cL #[vi 1,.slice a B.length c,vi 0,vi 0] 100))] ?_)))
 exact mR (v:=(.slice (oa ρ4 2) (bQ B).length (nb ρ4 2))) (fun _ hS=>⟨oa ρ4 2,nb ρ4 2,congrArg Ending.returned (rfl),hS.bel,dU (rfl) hS.facts.now.2.1⟩)
theorem asm2 (g:Nat) (c:Nat) (a0:Option Addr) (c0:Nat) (p:Nat) (a1:Option Addr) (c1:Nat) (q:Nat) (m:Int) (hm:1≤m∧m≤2) (w0:World) (hf0:Rs w0 (some ⟨g,0,none⟩) [vi 1,.slice a0 (hL p).length c0,vi 0,vi 0,vi 1,.slice a1 (hL q).length c1,vi 0,vi 0,vi 11,vz,vi m,vi 2]) (hf1:Bs w0 a0 c0 (hL p)) (hf2:Bs w0 a1 c1 (hL q)):Calls Tryz.prog 82 #[vs g 3 c] w0 (fun ε w'=>∃ α κ,ε=.returned (.tuple #[.slice α (((bQ (hL p))++(bQ (hL q)))++([ob 11,ob m,ob 2])).length κ,vi 0])∧jG w0 w'∧Fs w0 w' α κ (((bQ (hL p))++(bQ (hL q)))++([ob 11,ob m,ob 2]))):=by
 refine Calls.of_ok (n:=28) (F:=(fun w=>Rs w (some ⟨g,0,none⟩) [vi 1,.slice a0 (hL p).length c0,vi 0,vi 0,vi 1,.slice a1 (hL q).length c1,vi 0,vi 0,vi 11,vz,vi m,vi 2]∧Bs w a0 c0 (hL p)∧Bs w a1 c1 (hL q)∧True)) Tryz.func82 rfl rfl rfl (by simp) (hf0.pers0.and (hf1.pers0.and (hf2.pers0.and cO))) ?_
 refine jJ Tryz.f82 2 [0,2,3] [vz,vi 0] (jJ Tryz.f82 1 [0,2,3,4] [vz] (aB (jJ Tryz.f82 3 [2,3,4,8,9,10] [vs g 3 c,vi 3,vi 0] (aI ?_))))
 refine jY 4 ?_
 refine dI ?_
 refine jJ Tryz.f82 1 [2,3,4,8,9,10,11] [vT] (aB ?_)
 refine oY ?_
 refine aG (aA (aB (aI ?_)))
 refine sS Tryz.f82 4 [2,3,4,6,8,9,10,11,12,13] [] (fun ρ=>[pt g,.agg #[vi 1,.slice a0 (hL p).length c0,vi 0,vi 0],pt (nb ρ 2),undef]) (fun ρ=>[(2,(nw ρ 2 (cL #[vi 0,vz,vi 0,vi 0] 100))),(3,(bD 16 (nb ρ 2) (cL #[vi 1,.slice a0 (hL p).length c0,vi 0,vi 0] 100)))]) (cR [[]]<|cX (qF (v:=fun ρ=>(.agg #[vi 1,.slice a0 (hL p).length c0,vi 0,vi 0])) (fun _ _ _ hG=>pG (us:=[vi 1,.slice a0 (hL p).length c0,vi 0,vi 0]) (k:=0) Tryz.isAgg100 Tryz.sizeOf100 hG.fn.1 rfl (by decide) (fun j hj=>match j,hj with | 0,_=>rfl | 1,_=>rfl | 2,_=>rfl | 3,_=>rfl)))<|jE [[],[16]]) (fun ρ5=>?_)
 refine aB ?_
 refine sS Tryz.f82 3 [2,3,4,6,7,8,9,10,11,12,13,14,15] [] (fun _=>[.agg #[vi 1,.slice a0 (hL p).length c0,vi 0,vi 0],vi 0,vi 0]) (fun _=>[]) (cR [[0]]<|cX (qC (fun _ _ w _=>check1_any a0 c0 (hL p) (by rw [aO];decide) w))<|jE [[]]) (fun _=>?_)
 refine jJ Tryz.f82 2 [2,3,4,6,7,8,9,10,11,12,13,14,15,16,17] [vi 0,vF] ?_
 refine lK [(2,vz),(3,(vi 0)),(4,vz),(6,(pt (nb ρ5 2))),(7,(vi 0)),(8,(vs g 3 c)),(9,(vi 3)),(10,(vi 0)),(11,vT),(12,(pt g)),(13,(.agg #[vi 1,.slice a0 (hL p).length c0,vi 0,vi 0])),(14,(.agg #[vi 1,.slice a0 (hL p).length c0,vi 0,vi 0])),(15,(vi 0)),(16,(vi 0)),(17,vF)] [(nb ρ5 2,(cL #[vi 1,.slice a0 (hL p).length c0,vi 0,vi 0] 100))] ?_
 refine oN ?_
 refine aG (aA ?_)
 refine rSf Tryz.f82 5 [2,3,4,6,7,8,9,10,11,12,13,14,15,16,17,19,20,21,22] [] (fun ρ=>let qa:=vs (nb ρ 3) (bQ (hL p)).length ((bQ (hL p)).length+aZ ρ 3);[vz,.agg #[vi 1,.slice a0 (hL p).length c0,vi 0,vi 0],.slice (oa ρ 2) (bQ (hL p)).length (nb ρ 2),qa,qa]) (fun ρ=>[(3,(nw ρ 3 (cL ((bs (bQ (hL p))).toArray++zB (aZ ρ 3)) 5)))]) (fun ρ=>[(2,fun w=>Fs w0 w (oa ρ 2) (nb ρ 2) (bQ (hL p)))]) (fun ρ=>(fun w=>Rs w (some ⟨g,0,none⟩) [vi 1,.slice a0 (hL p).length c0,vi 0,vi 0,vi 1,.slice a1 (hL q).length c1,vi 0,vi 0,vi 11,vz,vi m,vi 2]∧Bs w a0 c0 (hL p)∧Bs w a1 c1 (hL q)∧Fs w0 w (oa ρ 2) (nb ρ 2) (bQ (hL p))∧True)) (fun _=>True) (fun _ _ hF hf=>⟨⟨hF.1,hF.2.1,hF.2.2.1,hf 2,trivial⟩,trivial⟩) (cR [[],[0]]<|cX (qB (fun _ _ w hG=>encode1_any a0 c0 (hL p) (by rw [aO];decide) w hG.fn.2.1))<|cX (qN (fun _ ζ=>(vs (ζ.headD 0) (bQ (hL p)).length ((bQ (hL p)).length+ζ.tail.headD 0))) (fun _ ζ=>(cL ((bs (bQ (hL p))).toArray++zB (ζ.tail.headD 0)) 5)) (fun ρ _ w hG=>oU (ty:=33) Tryz.underlying33 nH (Bs.src (tx:=33) Tryz.underlying33 (show Fs w0 w (oa ρ 2) (nb ρ 2) (bQ (hL p)) from (hG.facts 2 rfl).now).1) (qY _) (by rw [eG,aO];decide)))<|jE [[]]) (fun ρ8 _=>?_)
 refine aJ (aA (jL Tryz.f82 2 [2,3,4,6,7,8,9,10,11,12,13,14,15,16,17,19,20,21,22,23] [] [vi 1,vi 1] [[],[]] (dV ?_)))
 refine dI ?_
 refine jJ Tryz.f82 1 [2,3,4,6,7,8,9,10,11,12,13,14,15,16,17,19,20,21,22,23] [vT] (aB ?_)
 refine oY ?_
 refine aG (aA (aB (aI ?_)))
 refine sS Tryz.f82 4 [2,3,4,6,7,8,9,10,11,12,13,14,15,16,17,19,20,21,22,23] [0,1,1] (fun ρ=>[jp g 4,.agg #[vi 1,.slice a1 (hL q).length c1,vi 0,vi 0],pt (nb ρ 2),undef]) (fun ρ=>[(2,(nw ρ 2 (cL #[vi 0,vz,vi 0,vi 0] 100))),(3,(bD 18 (nb ρ 2) (cL #[vi 1,.slice a1 (hL q).length c1,vi 0,vi 0] 100)))]) (cR [[]]<|cX (qF (v:=fun ρ=>(.agg #[vi 1,.slice a1 (hL q).length c1,vi 0,vi 0])) (fun _ _ _ hG=>pG (us:=[vi 1,.slice a1 (hL q).length c1,vi 0,vi 0]) (k:=4) Tryz.isAgg100 Tryz.sizeOf100 hG.fn.1 rfl (by decide) (fun j hj=>match j,hj with | 0,_=>rfl | 1,_=>rfl | 2,_=>rfl | 3,_=>rfl)))<|jE [[],[18]]) (fun ρ11=>?_)
 refine aB ?_
 refine sS Tryz.f82 3 [2,3,4,6,7,8,9,10,11,12,13,14,15,16,17,19,20,21,22,23] [] (fun _=>[.agg #[vi 1,.slice a1 (hL q).length c1,vi 0,vi 0],vi 0,vi 0]) (fun _=>[]) (cR [[1]]<|cX (qC (fun _ _ w _=>check1_any a1 c1 (hL q) (by rw [aO];decide) w))<|jE [[]]) (fun _=>?_)
 refine jJ Tryz.f82 2 [2,3,4,6,7,8,9,10,11,12,13,14,15,16,17,19,20,21,22,23] [vi 0,vF] ?_
 refine oN ?_
 refine aG (aA ?_)
 refine rSf Tryz.f82 5 [2,3,4,6,7,8,9,10,11,12,13,14,15,16,17,19,20,21,22,23] [] (fun ρ=>let qa:=vs (nb ρ 3) ((bQ (hL p))++(bQ (hL q))).length (aZ ρ 3);[vs (nb ρ8 3) (bQ (hL p)).length ((bQ (hL p)).length+aZ ρ8 3),.agg #[vi 1,.slice a1 (hL q).length c1,vi 0,vi 0],.slice (oa ρ 2) (bQ (hL q)).length (nb ρ 2),qa,qa]) (fun ρ=>[(3,(bD 0 (nb ρ 3) (cL (oc ρ 3) 5)))]) (fun ρ=>[(2,fun w=>Fs w0 w (oa ρ 2) (nb ρ 2) (bQ (hL q))),(3,fun w=>Ap (oc ρ 3) ((bQ (hL p))++(bQ (hL q))) (aZ ρ 3))]) (fun ρ=>(fun w=>Rs w (some ⟨g,0,none⟩) [vi 1,.slice a0 (hL p).length c0,vi 0,vi 0,vi 1,.slice a1 (hL q).length c1,vi 0,vi 0,vi 11,vz,vi m,vi 2]∧Bs w a0 c0 (hL p)∧Bs w a1 c1 (hL q)∧Fs w0 w (oa ρ8 2) (nb ρ8 2) (bQ (hL p))∧Fs w0 w (oa ρ 2) (nb ρ 2) (bQ (hL q))∧True)) (fun ρ=>Ap (oc ρ 3) ((bQ (hL p))++(bQ (hL q))) (aZ ρ 3)) (fun _ _ hF hf=>⟨⟨hF.1,hF.2.1,hF.2.2.1,hF.2.2.2.1,hf 2,trivial⟩,hf 3⟩) (cR [[],[1]]<|cX (qB (fun _ _ w hG=>encode1_any a1 c1 (hL q) (by rw [aO];decide) w hG.fn.2.2.1))<|cX (qM 0 (fun ρ _ w hG hg=>app_any (ty:=33) (g:=nb ρ8 3) (C:=((bs (bQ (hL p))).toArray++zB (aZ ρ8 3))) (c:=(bQ (hL p)).length+aZ ρ8 3) (xs:=bQ (hL p)) Tryz.underlying33 nH (Ap.mk' (Hd.fresh _ _) (Nat.le_add_right _ _) (by rw [eG,aO];decide) (kV _ _)) (Bs.src (tx:=33) Tryz.underlying33 (show Fs w0 w (oa ρ 2) (nb ρ 2) (bQ (hL q)) from (hG.facts 2 rfl).now).1) (by simp only [eG,aO];omega) hg))<|jE [[]]) (fun ρ14 ap14_3=>?_)
 refine aJ (aA (jL Tryz.f82 2 [2,3,4,6,7,8,9,10,11,12,13,14,15,16,17,19,20,21,22,23] [] [vi 2,vi 2] [[],[]] (dV ?_)))
 refine dI ?_
 refine jJ Tryz.f82 1 [2,3,4,6,7,8,9,10,11,12,13,14,15,16,17,19,20,21,22,23] [vT] ?_
 refine lK [(2,vz),(3,(vi 0)),(4,(vs (nb ρ14 3) ((bQ (hL p))++(bQ (hL q))).length (aZ ρ14 3))),(6,(pt (nb ρ11 2))),(7,(vi 0)),(8,(vs g 3 c)),(9,(vi 3)),(10,(vi 2)),(11,vT),(12,(jp g 4)),(13,(.agg #[vi 1,.slice a1 (hL q).length c1,vi 0,vi 0])),(14,(.agg #[vi 1,.slice a1 (hL q).length c1,vi 0,vi 0])),(15,(vi 0)),(16,(vi 0)),(17,vF),(19,(vs (nb ρ8 3) (bQ (hL p)).length ((bQ (hL p)).length+aZ ρ8 3))),(20,(.agg #[vi 1,.slice a1 (hL q).length c1,vi 0,vi 0])),(21,(.slice (oa ρ14 2) (bQ (hL q)).length (nb ρ14 2))),(22,(vs (nb ρ14 3) ((bQ (hL p))++(bQ (hL q))).length (aZ ρ14 3))),(23,(vi 2))] [(nb ρ14 3,(cL (oc ρ14 3) 5)),(nb ρ11 2,(cL #[vi 1,.slice a1 (hL q).length c1,vi 0,vi 0] 100))] ?_
 refine aB ?_
 refine oY ?_
 refine aG (aA (aB (aI ?_)))
 refine sS Tryz.f82 4 [2,3,4,6,7,8,9,10,11,12,13,14,15,16,17,19,20,21,22,23] [1,0,1] (fun ρ=>[jp g 8,.agg #[vi 11,vz,vi m,vi 2],pt (nb ρ 2),undef]) (fun ρ=>[(2,(nw ρ 2 (cL #[vi 0,vz,vi 0,vi 0] 100))),(3,(bD 18 (nb ρ 2) (cL #[vi 11,vz,vi m,vi 2] 100)))]) (cR [[]]<|cX (qF (v:=fun ρ=>(.agg #[vi 11,vz,vi m,vi 2])) (fun _ _ _ hG=>pG (us:=[vi 11,vz,vi m,vi 2]) (k:=8) Tryz.isAgg100 Tryz.sizeOf100 hG.fn.1 rfl (by decide) (fun j hj=>match j,hj with | 0,_=>rfl | 1,_=>rfl | 2,_=>rfl | 3,_=>rfl)))<|jE [[],[18]]) (fun _=>?_)
 refine aB ?_
 refine sS Tryz.f82 3 [2,3,4,6,7,8,9,10,11,12,13,14,15,16,17,19,20,21,22,23] [] (fun _=>[.agg #[vi 11,vz,vi m,vi 2],vi 0,vi 0]) (fun _=>[]) (cR [[1]]<|cC (fun _ w=>checkm2 m hm w)<|jE [[]]) (fun _=>?_)
 refine jJ Tryz.f82 2 [2,3,4,6,7,8,9,10,11,12,13,14,15,16,17,19,20,21,22,23] [vi 0,vF] ?_
 refine oN ?_
 refine aG (aA ?_)
 refine rSf Tryz.f82 5 [2,3,4,6,7,8,9,10,11,12,13,14,15,16,17,19,20,21,22,23] [] (fun ρ=>let qa:=vs (nb ρ 3) (((bQ (hL p))++(bQ (hL q)))++([ob 11,ob m,ob 2])).length (aZ ρ 3);[vs (nb ρ14 3) ((bQ (hL p))++(bQ (hL q))).length (aZ ρ14 3),.agg #[vi 11,vz,vi m,vi 2],.slice (oa ρ 2) ([ob 11,ob m,ob 2]).length (nb ρ 2),qa,qa]) (fun ρ=>[(3,(bD 0 (nb ρ 3) (cL (oc ρ 3) 5)))]) (fun ρ=>[(2,fun w=>Fs w0 w (oa ρ 2) (nb ρ 2) ([ob 11,ob m,ob 2])),(3,fun w=>Ap (oc ρ 3) (((bQ (hL p))++(bQ (hL q)))++([ob 11,ob m,ob 2])) (aZ ρ 3))]) (fun ρ=>(fun w=>Rs w (some ⟨g,0,none⟩) [vi 1,.slice a0 (hL p).length c0,vi 0,vi 0,vi 1,.slice a1 (hL q).length c1,vi 0,vi 0,vi 11,vz,vi m,vi 2]∧Bs w a0 c0 (hL p)∧Bs w a1 c1 (hL q)∧Fs w0 w (oa ρ8 2) (nb ρ8 2) (bQ (hL p))∧Fs w0 w (oa ρ14 2) (nb ρ14 2) (bQ (hL q))∧Fs w0 w (oa ρ 2) (nb ρ 2) ([ob 11,ob m,ob 2])∧True)) (fun ρ=>Ap (oc ρ 3) (((bQ (hL p))++(bQ (hL q)))++([ob 11,ob m,ob 2])) (aZ ρ 3)) (fun _ _ hF hf=>⟨⟨hF.1,hF.2.1,hF.2.2.1,hF.2.2.2.1,hF.2.2.2.2.1,hf 2,trivial⟩,hf 3⟩) (cR [[],[1]]<|cX (qB (fun _ _ w _=>encodem2 m hm w))<|cX (qM 0 (fun ρ _ w hG hg=>app_any (ty:=33) (g:=nb ρ14 3) (C:=(oc ρ14 3)) (c:=aZ ρ14 3) (xs:=(bQ (hL p))++(bQ (hL q))) Tryz.underlying33 nH (Ap.mk' ap14_3.hd ap14_3.le ap14_3.max ap14_3.size) (Bs.src (tx:=33) Tryz.underlying33 (show Fs w0 w (oa ρ 2) (nb ρ 2) ([ob 11,ob m,ob 2]) from (hG.facts 2 rfl).now).1) (by simp only [List.length_append,List.length_cons,List.length_nil,eG,aO];omega) hg))<|jE [[]]) (fun ρ20 ap20_3=>?_)
 refine aJ (aA (jL Tryz.f82 2 [2,3,4,6,7,8,9,10,11,12,13,14,15,16,17,19,20,21,22,23] [] [vi 3,vi 3] [[],[]] (dV ?_)))
 refine dI ?_
 refine jJ Tryz.f82 1 [2,3,4,6,7,8,9,10,11,12,13,14,15,16,17,19,20,21,22,23] [vF] (aB ?_)
 refine oN ?_
 refine bF (aN (aN (aT (aA (aB ?_)))))
 refine sS Tryz.f82 3 [2,3,4,26] [1,0] (fun _=>[vs (nb ρ20 3) (((bQ (hL p))++(bQ (hL q)))++([ob 11,ob m,ob 2])).length (aZ ρ20 3),vn (((bQ (hL p))++(bQ (hL q)))++([ob 11,ob m,ob 2])).length,vF]) (fun _=>[]) (cR [[],[]]<|jQ (fun ρ=>(decide (520<(((((bQ (hL p))++(bQ (hL q)))++([ob 11,ob m,ob 2])).length:Nat):Int)))) false (fun _=>(decide_eq_false (by simp only [List.length_append,List.length_cons,List.length_nil,eG,aO];omega)))<|cN) (fun _=>?_)
 refine lK [(2,vz),(3,(vi 0)),(4,(vs (nb ρ20 3) (((bQ (hL p))++(bQ (hL q)))++([ob 11,ob m,ob 2])).length (aZ ρ20 3))),(26,vF)] [(nb ρ20 3,(cL (oc ρ20 3) 5))] ?_
 refine oN ?_
 refine aG (aA (jJ Tryz.f82 3 [2,3] (let qa:=vs (nb ρ20 3) (((bQ (hL p))++(bQ (hL q)))++([ob 11,ob m,ob 2])).length (aZ ρ20 3);[qa,qa,vi 0]) (aF (mD [(2,(vs (nb ρ20 3) (((bQ (hL p))++(bQ (hL q)))++([ob 11,ob m,ob 2])).length (aZ ρ20 3))),(3,(vi 0))] [(nb ρ20 3,(cL (oc ρ20 3) 5))] ?_))))
 exact mR (v:=(.tuple #[vs (nb ρ20 3) (((bQ (hL p))++(bQ (hL q)))++([ob 11,ob m,ob 2])).length (aZ ρ20 3),vi 0])) (fun _ hS=>⟨some ⟨nb ρ20 3,0,none⟩,aZ ρ20 3,congrArg Ending.returned (rfl),hS.bel,dU (rfl) (hS.fresh (.head _) ap20_3.hd ap20_3.le ap20_3.max)⟩)
theorem multi2 (m:Int) (a:Option Addr) (c:Nat) (p:Nat) (q:Nat) (_hp:p<M) (_hq:q<M) (hm:1≤m∧m≤2) (w0:World) (hf0:Us w0 a c ([p,q])):Calls Tryz.prog 43 #[vi m,.slice a ([p,q]).length c] w0 (fun ε w'=>∃ α κ,ε=.returned (.tuple #[.slice α (mlB m [p,q]).length κ,vi 0])∧jG w0 w'∧Fs w0 w' α κ (mlB m [p,q])):=by
 refine Calls.of_ok (n:=34) (F:=(fun w=>Us w a c ([p,q])∧True)) Tryz.func43 rfl rfl rfl (by simp) (hf0.pers0.and cO) ?_
 refine jJ Tryz.f43 2 [0,1,4,5] [vz,vi 0] (jJ Tryz.f43 1 [0,1,4,5,6] [vz] (aB (jJ Tryz.f43 3 [0,1,4,5,6,10,11,12] [.slice a ([p,q]).length c,vi 2,vi 0] (aI ?_))))
 refine jY 3 ?_
 refine dI ?_
 refine jJ Tryz.f43 1 [0,1,4,5,6,10,11,12,13] [vT] (aB ?_)
 refine oY ?_
 refine aG (aA (aB (aI ?_)))
 refine sS Tryz.f43 4 [0,1,4,5,6,8,10,11,12,13,14,15] [] (fun ρ=>[.pointer (fK a (0*4)),U p,pt (nb ρ 2),undef]) (fun ρ=>[(2,(nw ρ 2 (cL (cU 0) 39))),(3,(bD 16 (nb ρ 2) (cL (cU p) 39)))]) (cX (qF (fun _ _ _ hG=>Us.idx (k:=.i64) Tryz.underlying29 Tryz.sizeOf39 hG.fn.1 rfl (show (0:Int)=((0:Nat):Int) from rfl) (show 0<([p,q]).length from Nat.le_of_ble_eq_true rfl)))<|cX (qF (fun _ _ _ hG=>Us.ldA Tryz.isAgg39 Tryz.sizeOf39 hG.fn.1 (show 0<([p,q]).length from Nat.le_of_ble_eq_true rfl)))<|jE [[],[16]]) (fun ρ5=>?_)
 refine sS Tryz.f43 4 [0,1,4,5,6,8,9,10,11,12,13,14,15,16,17] [] (fun ρ=>[U p,.agg (hB p),pt (nb ρ 2),undef]) (fun ρ=>[(2,(nw ρ 2 (cL (hB 0) 43))),(3,(bD 17 (nb ρ 2) (cL (hB p) 43)))]) (cR [[0]]<|cC (fun _ w=>pW p w)<|jE [[],[17]]) (fun ρ6=>?_)
 refine rS Tryz.f43 6 [0,1,4,5,6,8,9,10,11,12,13,14,15,16,17,18,19,20,21,22] [] (fun ρ=>let qa:=vs (nb ρ6 2) (hL p).length 32;let qb:=vs (nb ρ 4) 1 (1+aZ ρ 4);[vz,qa,.agg #[vi 1,qa,vi 0,vi 0],vs (nb ρ 3) 1 1,qb,qb]) (fun ρ=>let qa:=vs (nb ρ6 2) (hL p).length 32;[(3,(nw ρ 3 (cL #[vi 1,qa,vi 0,vi 0] 100))),(4,(nw ρ 4 (cL ([vi 1,qa,vi 0,vi 0].toArray++Builtin.zeroCells (Value.cells (.agg #[vi 0,vz,vi 0,vi 0])) (aZ ρ 4)) 100)))]) (cR [[],[],[],[]]<|cX (qN (fun _ ζ=>(vs (ζ.headD 0) 1 (1+ζ.tail.headD 0))) (fun _ ζ=>(cL ([vi 1,vs (nb ρ6 2) (hL p).length 32,vi 0,vi 0].toArray++Builtin.zeroCells (Value.cells (.agg #[vi 0,vz,vi 0,vi 0])) (ζ.tail.headD 0)) 100)) (fun ρ _ _ hG=>uV (ty:=98) Tryz.underlying98 (dA (sz:=4) (b:=48) (z:=(.agg #[vi 0,vz,vi 0,vi 0])) (by kernel_rfl) rfl) (nX (c:=1) (vs:=[vi 1,vs (nb ρ6 2) (hL p).length 32,vi 0,vi 0]) Tryz.underlying98 (hG.kn (g:=nb ρ 3) (o:=(cL #[vi 1,vs (nb ρ6 2) (hL p).length 32,vi 0,vi 0] 100)) 26) rfl rfl) (by decide) (by decide) (by decide)))<|jE [[]]) (fun ρ7=>?_)
 refine aJ (aA (jL Tryz.f43 2 [0,1,4,5,6,8,9,10,11,12,13,14,15,16,17,18,19,20,21,22,23] [] [vi 1,vi 1] [[],[]] (dV ?_)))
 refine dI ?_
 refine jJ Tryz.f43 1 [0,1,4,5,6,8,9,10,11,12,13,14,15,16,17,18,19,20,21,22,23] [vT] ?_
 refine lK [(0,(vi m)),(1,(.slice a ([p,q]).length c)),(4,vz),(5,(vi 0)),(6,(vs (nb ρ7 4) 1 (1+aZ ρ7 4))),(8,(pt (nb ρ5 2))),(9,(pt (nb ρ6 2))),(10,(.slice a ([p,q]).length c)),(11,(vi 2)),(12,(vi 1)),(13,vT),(14,(.pointer (fK a (0*4)))),(15,(U p)),(16,(U p)),(17,(.agg (hB p))),(18,vz),(19,(vs (nb ρ6 2) (hL p).length 32)),(20,(.agg #[vi 1,vs (nb ρ6 2) (hL p).length 32,vi 0,vi 0])),(21,(vs (nb ρ7 3) 1 1)),(22,(vs (nb ρ7 4) 1 (1+aZ ρ7 4))),(23,(vi 1))] [(nb ρ5 2,(cL (cU p) 39)),(nb ρ6 2,(cL (hB p) 43)),(nb ρ7 3,(cL #[vi 1,vs (nb ρ6 2) (hL p).length 32,vi 0,vi 0] 100)),(nb ρ7 4,(cL ([vi 1,vs (nb ρ6 2) (hL p).length 32,vi 0,vi 0].toArray++Builtin.zeroCells (Value.cells (.agg #[vi 0,vz,vi 0,vi 0])) (aZ ρ7 4)) 100))] ?_
 refine aB ?_
 refine oY ?_
 refine aG (aA (aB (aI ?_)))
 refine sS Tryz.f43 4 [0,1,4,5,6,8,9,10,11,12,13,14,15,16,17,18,19,20,21,22,23] [] (fun ρ=>[.pointer (fK a (1*4)),U q,pt (nb ρ 2),undef]) (fun ρ=>[(2,(nw ρ 2 (cL (cU 0) 39))),(3,(bD 20 (nb ρ 2) (cL (cU q) 39)))]) (cX (qF (fun _ _ _ hG=>Us.idx (k:=.i64) Tryz.underlying29 Tryz.sizeOf39 hG.fn.1 rfl (show (1:Int)=((1:Nat):Int) from rfl) (show 1<([p,q]).length from Nat.le_of_ble_eq_true rfl)))<|cX (qF (fun _ _ _ hG=>Us.ldA Tryz.isAgg39 Tryz.sizeOf39 hG.fn.1 (show 1<([p,q]).length from Nat.le_of_ble_eq_true rfl)))<|jE [[],[20]]) (fun ρ10=>?_)
 refine sS Tryz.f43 4 [0,1,4,5,6,8,9,10,11,12,13,14,15,16,17,18,19,20,21,22,23] [] (fun ρ=>[U q,.agg (hB q),pt (nb ρ 2),undef]) (fun ρ=>[(2,(nw ρ 2 (cL (hB 0) 43))),(3,(bD 21 (nb ρ 2) (cL (hB q) 43)))]) (cR [[4]]<|cC (fun _ w=>pW q w)<|jE [[],[21]]) (fun ρ11=>?_)
 refine rSf Tryz.f43 6 [0,1,4,5,6,8,9,10,11,12,13,14,15,16,17,18,19,20,21,22,23] [] (fun ρ=>let qa:=vs (nb ρ11 2) (hL q).length 32;let qb:=vs (nb ρ 4) 2 (aZ ρ 4);[vs (nb ρ7 4) 1 (1+aZ ρ7 4),qa,.agg #[vi 1,qa,vi 0,vi 0],vs (nb ρ 3) 1 1,qb,qb]) (fun ρ=>[(3,(nw ρ 3 (cL #[vi 1,vs (nb ρ11 2) (hL q).length 32,vi 0,vi 0] 100))),(4,(bD 3 (nb ρ 4) (cL (oc ρ 4) 100)))]) (fun ρ=>[(4,fun w=>Av (oc ρ 4) 4 2 [vi 1,vs (nb ρ6 2) (hL p).length 32,vi 0,vi 0,vi 1,vs (nb ρ11 2) (hL q).length 32,vi 0,vi 0] (aZ ρ 4))]) (fun _=>(fun w=>Us w a c ([p,q])∧True)) (fun ρ=>Av (oc ρ 4) 4 2 [vi 1,vs (nb ρ6 2) (hL p).length 32,vi 0,vi 0,vi 1,vs (nb ρ11 2) (hL q).length 32,vi 0,vi 0] (aZ ρ 4)) (fun _ _ hF hf=>⟨hF,hf 4⟩) (cR [[],[],[],[]]<|cX (qM 3 (fun ρ _ _ hG hg=>sN (ty:=98) (g:=nb ρ7 4) Tryz.underlying98 (dA (sz:=4) (b:=48) (z:=(.agg #[vi 0,vz,vi 0,vi 0])) (by kernel_rfl) rfl) (Av.fresh (z:=(.agg #[vi 0,vz,vi 0,vi 0])) (m:=1) rfl (ys:=[vi 1,vs (nb ρ6 2) (hL p).length 32,vi 0,vi 0]) rfl (aZ ρ7 4)) (nX (c:=1) (vs:=[vi 1,vs (nb ρ11 2) (hL q).length 32,vi 0,vi 0]) Tryz.underlying98 (hG.kn (g:=nb ρ 3) (o:=(cL #[vi 1,vs (nb ρ11 2) (hL q).length 32,vi 0,vi 0] 100)) 30) rfl rfl) (by decide) (by decide) hg))<|jE [[]]) (fun ρ12 ap12_4=>?_)
 refine aJ (aA (jL Tryz.f43 2 [0,1,4,5,6,8,9,10,11,12,13,14,15,16,17,18,19,20,21,22,23] [] [vi 2,vi 2] [[],[]] (dV ?_)))
 refine dI ?_
 refine jJ Tryz.f43 1 [0,1,4,5,6,8,9,10,11,12,13,14,15,16,17,18,19,20,21,22,23] [vF] (aB ?_)
 refine oN ?_
 refine bF (aN (aN (aT (aA ?_))))
 refine iZ Tryz.f43 12 [4,5] [] (fun ρ=>let qa:Value:=.slice (oa ρ 7) (((bQ (hL p))++(bQ (hL q)))++([ob 11,ob m,ob 2])).length (nb ρ 7);[vs (nb ρ12 4) 2 (aZ ρ12 4),vi m,.slice a ([p,q]).length c,vi 2,.agg #[vi 11,vz,vi m,vi 2],vs (nb ρ 5) 1 1,vs (nb ρ 6) 3 (aZ ρ 6),.tuple #[qa,vi 0],qa,vi 0,qa,vi 0]) (fun ρ=>[(5,(nw ρ 5 (cL #[vi 11,vz,vi m,vi 2] 100))),(6,(bD 3 (nb ρ 6) (cL (oc ρ 6) 100)))]) (fun ρ=>[(6,fun w=>Av (oc ρ 6) 4 3 [vi 1,vs (nb ρ6 2) (hL p).length 32,vi 0,vi 0,vi 1,vs (nb ρ11 2) (hL q).length 32,vi 0,vi 0,vi 11,vz,vi m,vi 2] (aZ ρ 6)),(7,fun w=>Fs w0 w (oa ρ 7) (nb ρ 7) (((bQ (hL p))++(bQ (hL q)))++([ob 11,ob m,ob 2])))]) (fun ρ=>(fun w=>Us w a c ([p,q])∧Fs w0 w (oa ρ 7) (nb ρ 7) (((bQ (hL p))++(bQ (hL q)))++([ob 11,ob m,ob 2]))∧True)) (fun ρ=>Av (oc ρ 6) 4 3 [vi 1,vs (nb ρ6 2) (hL p).length 32,vi 0,vi 0,vi 1,vs (nb ρ11 2) (hL q).length 32,vi 0,vi 0,vi 11,vz,vi m,vi 2] (aZ ρ 6)) (fun _ _ hF hf=>⟨⟨hF.1,hf 7,trivial⟩,hf 6⟩) (cR [[],[],[],[],[],[]]<|cX (qM 3 (fun ρ _ _ hG hg=>sN (ty:=98) (g:=nb ρ12 4) Tryz.underlying98 (dA (sz:=4) (b:=48) (z:=(.agg #[vi 0,vz,vi 0,vi 0])) (by kernel_rfl) rfl) ap12_4 (nX (c:=1) (vs:=[vi 11,vz,vi m,vi 2]) Tryz.underlying98 (hG.kn (g:=nb ρ 5) (o:=(cL #[vi 11,vz,vi m,vi 2] 100)) 47) rfl rfl) (by decide) (by decide) hg))<|cX (qB (fun ρ _ w hG=>asm2 (nb ρ 6) (aZ ρ 6) (some ⟨nb ρ6 2,0,none⟩) 32 p (some ⟨nb ρ11 2,0,none⟩) 32 q m hm w (Rs.of_av (hG.kn (g:=nb ρ 6) (o:=(cL (oc ρ 6) 100)) 3) (show Av (oc ρ 6) 4 3 [vi 1,vs (nb ρ6 2) (hL p).length 32,vi 0,vi 0,vi 1,vs (nb ρ11 2) (hL q).length 32,vi 0,vi 0,vi 11,vz,vi m,vi 2] (aZ ρ 6) from (hG.facts 6 rfl).now)) (Bs.of_hd (c:=32) (hG.kn (g:=nb ρ6 2) (o:=(cL (hB p) 43)) 1) (kP _) (Nat.le_refl _) (Nat.le_of_ble_eq_true rfl)) (Bs.of_hd (c:=32) (hG.kn (g:=nb ρ11 2) (o:=(cL (hB q) 43)) 5) (kP _) (Nat.le_refl _) (Nat.le_of_ble_eq_true rfl))))<|jE [[],[],[],[]]) (fun ρ15 ap15_6=>?_)
 refine aF (mD [(4,(.slice (oa ρ15 7) (((bQ (hL p))++(bQ (hL q)))++([ob 11,ob m,ob 2])).length (nb ρ15 7))),(5,(vi 0))] [(nb ρ5 2,(cL (cU p) 39)),(nb ρ6 2,(cL (hB p) 43)),(nb ρ7 3,(cL #[vi 1,vs (nb ρ6 2) (hL p).length 32,vi 0,vi 0] 100)),(nb ρ15 6,(cL (oc ρ15 6) 100)),(nb ρ10 2,(cL (cU q) 39)),(nb ρ11 2,(cL (hB q) 43)),(nb ρ12 3,(cL #[vi 1,vs (nb ρ11 2) (hL q).length 32,vi 0,vi 0] 100)),(nb ρ15 5,(cL #[vi 11,vz,vi m,vi 2] 100))] ?_)
 exact mR (v:=(.tuple #[.slice (oa ρ15 7) (((bQ (hL p))++(bQ (hL q)))++([ob 11,ob m,ob 2])).length (nb ρ15 7),vi 0])) (fun _ hS=>⟨oa ρ15 7,nb ρ15 7,congrArg Ending.returned (rfl),hS.bel,dU (rfl) hS.facts.now.2.1⟩)
theorem multi_any (m:Int) (a:Option Addr) (c:Nat) (ns:List Nat) (hU:∀ n∈ns,n<M) (hl:ns.length=2) (hm:1≤m∧m≤ns.length) (w0:World) (hf0:Us w0 a c ns):Calls Tryz.prog 43 #[.int .i64 m,.slice a ns.length c] w0 (fun ε w'=>∃ α κ,ε=.returned (.tuple #[.slice α (mlB m ns).length κ,.int .i64 0])∧jG w0 w'∧Fs w0 w' α κ (mlB m ns)):=by
  match ns,hl with
  | [p,q],_=>exact multi2 m a c p q (hU p (by simp)) (hU q (by simp)) hm w0 hf0
  | [],h=>simp at h
  | [_],h=>simp at h
  | _::_::_::_,h=>simp at h
section
variable {P : Program} {Q : Exit → Act → World → Prop} {n : Nat} {l : List (Nat × Value)} {w0 : Base} {h : List (Nat × Obj)} {F : World → Prop}
def Next1F {σ:Type} (n:Nat) (w0:Base) (F:σ→World→Prop) (L:σ→List (Nat × Value)) (H:σ→List (Nat × Obj)) (m:σ→Nat) (R:σ→Prop) (k:Nat) (A:Act) (w:World):Prop:=∃ s,m s<k∧R s∧Fr n (L s) A∧St w0 (H s) (F s) w
theorem ok_loopF {σ:Type} {c:Code} (Fs:σ→World→Prop) (L:σ→List (Nat × Value)) (H:σ→List (Nat × Obj)) (m:σ→Nat) (R:σ→Prop) (s0:σ) (hR:R s0) (hF:∀ w,F w→Fs s0 w) (hl:(L s0).map (fun x=>l.lookup x.1)=(L s0).map (fun x=>some x.2)) (hh:List.Sublist (H s0) h)
    (round:∀ s,R s→Ok P c (Exit.then (Next1F n w0 Fs L H m R (m s)) Q) n (L s) w0 (H s) (Fs s)):Ok P (.loop c) Q n l w0 h F:=by
  intro A w hf hs
  refine wp_loop_ghost (fun k A w=>∃ s,m s=k∧R s∧Fr n (L s) A∧St w0 (H s) (Fs s) w) (m s0) ⟨s0,rfl,hR,hf.sub _ (Subl.get hl),(hs.weaken hF).sub hh⟩ ?_
  rintro k A w ⟨s,rfl,h1,h2,h3⟩
  refine Code.wp_mono ?_ (round s h1 A w h2 h3)
  intro e A' w' hq
  cases e with
  | normal =>
    obtain ⟨s',q1,q2,q3,q4⟩:=hq
    exact ⟨m s',q1,s',rfl,q2,q3,q4⟩
  | _=>exact hq
theorem oLF {σ:Type} {c:Code} (Fs:σ→World→Prop) (L:σ→List (Nat × Value)) (H:σ→List (Nat × Obj)) (m:σ→Nat) (R:σ→Prop) (s0:σ) (hR:R s0) (hF:∀ w,F w→Fs s0 w) (ks:List Nat)
    (round:∀ s,R s→Ok P c (Exit.then (Next1F n w0 Fs L H m R (m s)) Q) n (L s) w0 (H s) (Fs s))
    (hl:(L s0).map (fun x=>l.lookup x.1)=(L s0).map (fun x=>some x.2):=by kernel_rfl) (hh:oW ks h=H s0:=by kernel_rfl):Ok P (.loop c) Q n l w0 h F :=
  ok_loopF Fs L H m R s0 hR hF hl (hh ▸ jX ks h) round
theorem mNF {σ:Type} {Fs:σ→World→Prop} {L:σ→List (Nat × Value)} {H:σ→List (Nat × Obj)} {m:σ→Nat} {R:σ→Prop} {k:Nat} (s:σ) (hm:m s<k) (hR:R s) (hc:∀ w,St w0 h F w→St w0 (H s) (Fs s) w) (hl:(L s).map (fun x=>l.lookup x.1)=(L s).map (fun x=>some x.2):=by kernel_rfl) :
    gJ (Exit.then (Next1F n w0 Fs L H m R k) Q .normal) n l w0 h F:=fun _ w hf hs=>⟨s,hm,hR,hf.sub _ (Subl.get hl),hc w hs⟩
end
theorem St.toFact {B:Base} {w:World} {h h':List (Nat × Obj)} {F G:World→Prop} (hS:St B h F w) (hh:List.Sublist h' h) (hG:dL (fun b=>b∈h'.map (·.1)) G w):St B h' (fun w=>G w∧F w) w:=by
  have hs:=hS.sub hh
  exact ⟨hs.below,hs.at_,hs.nodup,hG.and hs.facts⟩
section
variable {P : Program} {Q : Exit → Act → World → Prop} {n : Nat} {l : List (Nat × Value)} {w0 : Base} {h : List (Nat × Obj)} {F : World → Prop} {σ : Type}
def JoinP (P:Program) (y:Code) (Q:Exit→Act→World→Prop) (n:Nat) (w0:Base) (L:σ→List (Nat × Value)) (H:σ→List (Nat × Obj)) (Fs:σ→World→Prop) (R:σ→Prop):Prop:=∀ s,R s→Ok P y Q n (L s) w0 (H s) (Fs s)
variable (L : σ → List (Nat × Value)) (H : σ → List (Nat × Obj)) (Fs : σ → World → Prop) (R : σ → Prop)
theorem okJ2 {a b y:Code} (hJ:∀ s,R s→Ok P y Q n (L s) w0 (H s) (Fs s)) (hx:JoinP P y Q n w0 L H Fs R→Ok P (.seq a (.seq b y)) Q n l w0 h F):Ok P (.seq a (.seq b y)) Q n l w0 h F:=hx hJ
variable {L H Fs R}
theorem okE {y:Code} (J:JoinP P y Q n w0 L H Fs R) (s:σ) (hR:R s) (hc:∀ w,St w0 h F w→St w0 (H s) (Fs s) w) (hl:(L s).map (fun x=>l.lookup x.1)=(L s).map (fun x=>some x.2):=by kernel_rfl):Ok P y Q n l w0 h F :=
  fun A w hf hs=>J s hR A w (hf.sub _ (Subl.get hl)) (hc w hs)
end
section
variable {B : Base} {w : World} {h : List (Nat × Obj)} {F : World → Prop} {g : Nat} {o : Obj}
theorem erase_nin:∀ {h:List (Nat × Obj)} {k:Nat},(h.map (·.1)).Nodup→h[k]? = some (g,o)→g ∉ (h.eraseIdx k).map (·.1)
  | [],_,_,hk=>by simp at hk
  | x :: r, 0, hn, hk => by
    obtain rfl:x=(g,o):=by simpa using hk
    rw [List.map_cons,List.nodup_cons] at hn
    exact hn.1
  | x :: r, k + 1, hn, hk => by
    rw [List.map_cons,List.nodup_cons] at hn
    have hk':r[k]? = some (g,o):=by simpa using hk
    rw [List.eraseIdx_cons_succ,List.map_cons,List.mem_cons,not_or]
    refine ⟨fun e=>hn.1 ?_,erase_nin hn.2 hk'⟩
    rw [← e]
    exact List.mem_map.2 ⟨_,List.mem_of_getElem? hk',rfl⟩
theorem St.froz (hS:St B h F w) (k:Nat) (hk:h[k]? = some (g,o)) (ks:List Nat) {h':List (Nat × Obj)} (hh:oW ks (h.eraseIdx k)=h') {G:World→Prop} (hG:B.w.heap.size≤w.heap.size→w.heap[g]? = some o→g ∉ h'.map (·.1)→dL (fun b=>b∈h'.map (·.1)) G w):St B h' (fun w=>G w∧F w) w:=by
  have h1:List.Sublist h' (h.eraseIdx k):=hh ▸ jX ks _
  have h2:=h1.trans (List.eraseIdx_sublist h k)
  refine hS.toFact h2 (hG hS.below.size (hS.at_ _ (List.mem_of_getElem? hk)).2 ?_)
  exact fun hm=>erase_nin hS.nodup hk ((h1.map _).subset hm)
theorem St.frozI (hS:St B h F w) (k:Nat) {C:Array Value} {e:TypeId} {fr:Nat × Nat} {l:List Nat} {c:Nat} (hA:kI.A C l c) (hm:l.length≤140737488351232) (ks:List Nat) {h':List (Nat × Obj)} (hk:h[k]? = some (g,.cells C e fr):=by kernel_rfl) (hh:oW ks (h.eraseIdx k)=h':=by kernel_rfl):St B h' (fun w=>Is w .u32 (some ⟨g,0,none⟩) c (nI l)∧F w) w :=
  hS.froz k hk ks hh (fun _ hg hn=>(Is.of_kI hg hA hm).pers (fun p hp _ hx=>by
    obtain rfl:(⟨g,0,none⟩:Addr)=p:=by simpa using hp
    exact hn hx))
theorem St.frozN (hS:St B h F w) (ks:List Nat) {h':List (Nat × Obj)} {k:IntKind} {a:Option Addr} {c:Nat} (hh:oW ks h=h':=by kernel_rfl):St B h' (fun w=>Is w k a c (nI [])∧F w) w:=by
  have h1:List.Sublist h' h:=hh ▸ jX ks _
  exact (hS.sub h1).weaken (fun _ hF=>⟨Is.nil,hF⟩)
end
def mkO (s:Mk):Obj:=(.cells #[.slice s.ta s.ts.length s.tc,.slice s.ka s.ns.length s.kc] 64 (0,0))
def NextC (g:Nat) (s:Mk) (b:List UInt8) (s':Mk):Prop:=∀ w0:World,Knows [(g,mkO s)] w0→dL (fun x=>x∈([(g,mkO s)]:List (Nat × Obj)).map (·.1)) (fun w=>bM w s.ta s.tc s.ts∧Us w s.ka s.kc s.ns∧True) w0→Calls Tryz.prog 26 #[pt g] w0 (fun ε w'=>∃ α κ,ε=.returned (.tuple #[.slice α b.length κ,.int .i64 0])∧nN (fun b=>b∈([(g,mkO s)]:List (Nat × Obj)).map (·.1)) w0 w'∧Knows [(g,mkO s')] w'∧Fs w0 w' α κ b)
theorem next1_any (g:Nat) (s:Mk) (hk:s.fst.kd=1) (hc:s.can=true) (_ho:mP s.ts) (hU:∀ n∈s.ns,n<M) (w0:World) (hK:Knows [(g,(cL #[.slice s.ta s.ts.length s.tc,.slice s.ka s.ns.length s.kc] 64))] w0) (hP:dL (fun b=>b∈([(g,(cL #[.slice s.ta s.ts.length s.tc,.slice s.ka s.ns.length s.kc] 64))]:List (Nat × Obj)).map (·.1)) (fun w=>bM w s.ta s.tc s.ts∧Us w s.ka s.kc s.ns∧True) w0):Calls Tryz.prog 26 #[pt g] w0 (fun ε w'=>∃ α κ,ε=.returned (.tuple #[.slice α (sgB (s.ns.getD 0 0)).length κ,.int .i64 0])∧nN (fun b=>b∈([(g,(cL #[.slice s.ta s.ts.length s.tc,.slice s.ka s.ns.length s.kc] 64))]:List (Nat × Obj)).map (·.1)) w0 w'∧Knows [(g,(cL #[.slice s.go.ta s.go.ts.length s.go.tc,.slice s.go.ka s.go.ns.length s.go.kc] 64))] w'∧Fs w0 w' α κ (sgB (s.ns.getD 0 0))):=by
 refine Calls.of_okW (n:=97) (F:=(fun w=>bM w s.ta s.tc s.ts∧Us w s.ka s.kc s.ns∧True)) [(g,(cL #[.slice s.ta s.ts.length s.tc,.slice s.ka s.ns.length s.kc] 64))] Tryz.func26 rfl rfl rfl (by simp) hK (by simp) hP ?_
 refine jJ Tryz.f26 2 [0,2,3] [vz,vi 0] ?_
 refine sS Tryz.f26 8 [0,2,3,4] [] (fun ρ=>[pt g,pt g,pt g,.slice s.ta s.ts.length s.tc,.pointer (fK s.ta (0*36)),.agg (bW.row (gT s.ts 0)),pt (nb ρ 6),undef]) (fun ρ=>[(6,(nw ρ 6 (cL (iC 0 0 0 0 vz) 46))),(7,(bD 49 (nb ρ 6) (cL (bW.row (gT s.ts 0)) 46)))]) (cR [[],[],[],[0]]<|cX (qF (fun _ _ _ hG=>bM.idx (k:=.i64) Tryz.underlying24 Tryz.sizeOf46 hG.fn.1 rfl (show (0:Int)=((0:Nat):Int) from rfl) (show 0<s.ts.length from eX hc)))<|cX (qF (fun _ _ _ hG=>bM.ldA (i:=0) Tryz.isAgg46 Tryz.sizeOf46 hG.fn.1 (show 0<s.ts.length from eX hc)))<|jE [[],[49]]) (fun ρ2=>?_)
 refine iZ Tryz.f26 9 [0,2,3,4] [] (fun _=>[pt g,pt g,pt g,pt g,.slice s.ta s.ts.length s.tc,.slice (jA s.ta s.tc 1 36) s.ts.tail.length (s.tc-1),pt g,pt g,undef]) (fun _=>[(8,(bD 0 g (cL #[.slice (jA s.ta s.tc 1 36) s.ts.tail.length (s.tc-1),.slice s.ka s.ns.length s.kc] 64)))]) (fun _=>[(5,fun w=>bM w (jA s.ta s.tc 1 36) (s.tc-1) s.ts.tail)]) (fun _=>(fun w=>bM w s.ta s.tc s.ts∧Us w s.ka s.kc s.ns∧bM w (jA s.ta s.tc 1 36) (s.tc-1) s.ts.tail∧True)) (fun _=>True) (fun _ _ hF hf=>⟨⟨hF.1,hF.2.1,hf 5,trivial⟩,trivial⟩) (cR [[],[],[],[],[0]]<|cX (jF (fun _=>Instr.sliceAt 24 (.slice s.ta s.ts.length s.tc) (some (vi 1)) none none) (fun _=>(.slice (jA s.ta s.tc 1 36) s.ts.tail.length (s.tc-1))) (fun _ _ _ hG=>fP (k:=1) Tryz.underlying24 Tryz.sizeOf46 rfl (jI (rfl)) (eX hc) hG.fn.1.le (by rw [List.length_tail])) (fun _ _ w hG=>hG.facts0.mono (fun _ hF=>hF.1.tail (eX hc))))<|jE [[],[],[0]]) (fun _ _=>?_)
 refine sDf Tryz.f26 [0,1,3,7,0,16,48,127,255] 9 [0,2,3,4,5] [] (fun _=>let qa:Value:=.slice s.ka (s.ns.take (gT s.ts 0).ks.length).length s.kc;[pt g,pt g,jp g 1,.slice s.ka s.ns.length s.kc,jp (nb ρ2 6) 35,.slice (gT s.ts 0).ka (gT s.ts 0).ks.length (gT s.ts 0).kc,vn (gT s.ts 0).ks.length,qa,qa]) (fun _=>[]) (fun _=>[(7,fun w=>Us w s.ka s.kc (s.ns.take (gT s.ts 0).ks.length))]) (fun _=>(fun w=>bM w s.ta s.tc s.ts∧Us w s.ka s.kc s.ns∧bM w (jA s.ta s.tc 1 36) (s.tc-1) s.ts.tail∧Us w s.ka s.kc (s.ns.take (gT s.ts 0).ks.length)∧True)) (fun _=>True) (fun _ _ hF hf=>⟨⟨hF.1,hF.2.1,hF.2.2.1,hf 7,trivial⟩,trivial⟩) (cR [[],[],[],[0],[],[1],[]]<|cX (jF (fun _=>Instr.sliceAt 29 (.slice s.ka s.ns.length s.kc) none (some (vn (gT s.ts 0).ks.length)) none) (fun _=>(.slice s.ka (s.ns.take (gT s.ts 0).ks.length).length s.kc)) (fun _ _ _ hG=>pY (k:=(gT s.ts 0).ks.length) Tryz.underlying29 Tryz.sizeOf39 rfl (jI (rfl)) (fE hc) hG.fn.2.1.le (by rw [List.length_take];exact (Nat.min_eq_left (fE hc)).symm)) (fun _ _ w hG=>hG.facts0.mono (fun _ hF=>hF.2.1.take (gT s.ts 0).ks.length)))<|jE [[]]) (fun _ _=>?_)
 refine sDf Tryz.f26 [0,0,2,6,14,0,32,96,254,511,1023,2047] 12 [0,2,3,4,5] [] (fun _=>[pt g,pt g,pt g,jp g 1,.slice s.ka s.ns.length s.kc,jp (nb ρ2 6) 35,.slice (gT s.ts 0).ka (gT s.ts 0).ks.length (gT s.ts 0).kc,vn (gT s.ts 0).ks.length,.slice (jA s.ka s.kc (gT s.ts 0).ks.length 4) (s.ns.drop (gT s.ts 0).ks.length).length (s.kc-(gT s.ts 0).ks.length),pt g,jp g 1,undef]) (fun _=>[(11,(bD 0 g (cL #[.slice (jA s.ta s.tc 1 36) s.ts.tail.length (s.tc-1),.slice (jA s.ka s.kc (gT s.ts 0).ks.length 4) (s.ns.drop (gT s.ts 0).ks.length).length (s.kc-(gT s.ts 0).ks.length)] 64)))]) (fun _=>[(8,fun w=>Us w (jA s.ka s.kc (gT s.ts 0).ks.length 4) (s.kc-(gT s.ts 0).ks.length) (s.ns.drop (gT s.ts 0).ks.length))]) (fun _=>(fun w=>bM w s.ta s.tc s.ts∧Us w s.ka s.kc s.ns∧bM w (jA s.ta s.tc 1 36) (s.tc-1) s.ts.tail∧Us w s.ka s.kc (s.ns.take (gT s.ts 0).ks.length)∧Us w (jA s.ka s.kc (gT s.ts 0).ks.length 4) (s.kc-(gT s.ts 0).ks.length) (s.ns.drop (gT s.ts 0).ks.length)∧True)) (fun _=>True) (fun _ _ hF hf=>⟨⟨hF.1,hF.2.1,hF.2.2.1,hF.2.2.2.1,hf 8,trivial⟩,trivial⟩) (cR [[],[],[],[],[0],[],[1],[]]<|cX (jF (fun _=>Instr.sliceAt 29 (.slice s.ka s.ns.length s.kc) (some (vn (gT s.ts 0).ks.length)) none none) (fun _=>(.slice (jA s.ka s.kc (gT s.ts 0).ks.length 4) (s.ns.drop (gT s.ts 0).ks.length).length (s.kc-(gT s.ts 0).ks.length))) (fun _ _ _ hG=>fP (k:=(gT s.ts 0).ks.length) Tryz.underlying29 Tryz.sizeOf39 rfl (jI (rfl)) (fE hc) hG.fn.2.1.le (by rw [List.length_drop])) (fun _ _ w hG=>hG.facts0.mono (fun _ hF=>hF.2.1.drop (fE hc))))<|jE [[],[],[0]]) (fun _ _=>?_)
 refine aB (jM Tryz.f26 2 [0,2,3,4,5,43] [] [pt (nb ρ2 6),vi (gT s.ts 0).kd] [[],[1]] (aI ?_))
 refine sS Tryz.f26 2 [0,2,3,4,5,43,44] [] (fun _=>[vT,vT]) (fun _=>[]) (jQ (fun ρ=>((gT s.ts 0).kd==1)) true (fun _=>(jK hk rfl))<|jE [[]]) (fun _=>?_)
 refine lK [(0,(pt g)),(2,vz),(3,(vi 0)),(4,(pt (nb ρ2 6))),(5,(.slice s.ka (s.ns.take (gT s.ts 0).ks.length).length s.kc)),(43,(vi (gT s.ts 0).kd)),(44,vT)] [(g,(cL #[.slice (jA s.ta s.tc 1 36) s.ts.tail.length (s.tc-1),.slice (jA s.ka s.kc (gT s.ts 0).ks.length 4) (s.ns.drop (gT s.ts 0).ks.length).length (s.kc-(gT s.ts 0).ks.length)] 64)),(nb ρ2 6,(cL (bW.row (gT s.ts 0)) 46))] ?_
 refine oY ?_
 refine iZ Tryz.f26 6 [0,2,3,4] [] (fun ρ=>let qa:Value:=.slice (oa ρ 3) (sgB (gU (s.ns.take (gT s.ts 0).ks.length) 0)).length (nb ρ 3);[.slice s.ka (s.ns.take (gT s.ts 0).ks.length).length s.kc,.pointer (fK s.ka (0*4)),U (gU (s.ns.take (gT s.ts 0).ks.length) 0),qa,qa,vi 0]) (fun _=>[]) (fun ρ=>[(3,fun w=>Fs w0 w (oa ρ 3) (nb ρ 3) (sgB (gU (s.ns.take (gT s.ts 0).ks.length) 0)))]) (fun ρ=>(fun w=>bM w s.ta s.tc s.ts∧Us w s.ka s.kc s.ns∧bM w (jA s.ta s.tc 1 36) (s.tc-1) s.ts.tail∧Us w s.ka s.kc (s.ns.take (gT s.ts 0).ks.length)∧Us w (jA s.ka s.kc (gT s.ts 0).ks.length 4) (s.kc-(gT s.ts 0).ks.length) (s.ns.drop (gT s.ts 0).ks.length)∧Fs w0 w (oa ρ 3) (nb ρ 3) (sgB (gU (s.ns.take (gT s.ts 0).ks.length) 0))∧True)) (fun _=>True) (fun _ _ hF hf=>⟨⟨hF.1,hF.2.1,hF.2.2.1,hF.2.2.2.1,hF.2.2.2.2.1,hf 3,trivial⟩,trivial⟩) (cR [[]]<|cX (qF (fun _ _ _ hG=>Us.idx (k:=.i64) Tryz.underlying29 Tryz.sizeOf39 hG.fn.2.2.2.1 rfl (show (0:Int)=((0:Nat):Int) from rfl) (show 0<(s.ns.take (gT s.ts 0).ks.length).length from (by rw [List.length_take];have e:(gT s.ts 0).ks.length=s.fst.ks.length:=rfl;have:=fE hc;have h1:0<s.fst.ks.length:=(by have:=vV hc;unfold o7 at this;omega);omega))))<|cX (qF (fun _ _ _ hG=>Us.ldA Tryz.isAgg39 Tryz.sizeOf39 hG.fn.2.2.2.1 (show 0<(s.ns.take (gT s.ts 0).ks.length).length from (by rw [List.length_take];have e:(gT s.ts 0).ks.length=s.fst.ks.length:=rfl;have:=fE hc;have h1:0<s.fst.ks.length:=(by have:=vV hc;unfold o7 at this;omega);omega))))<|cX (qB (fun _ _ w _=>single_any (gU (s.ns.take (gT s.ts 0).ks.length) 0) (gU_ok (fun n hn=>hU n (List.mem_of_mem_take hn)) 0) w))<|jE [[],[]]) (fun ρ8 _=>?_)
 refine aF (aP (aC (mD [(0,(pt g)),(2,(.slice (oa ρ8 3) (sgB (gU (s.ns.take (gT s.ts 0).ks.length) 0)).length (nb ρ8 3))),(3,(vi 0)),(4,(pt (nb ρ2 6)))] [(g,(cL #[.slice (jA s.ta s.tc 1 36) s.ts.tail.length (s.tc-1),.slice (jA s.ka s.kc (gT s.ts 0).ks.length 4) (s.ns.drop (gT s.ts 0).ks.length).length (s.kc-(gT s.ts 0).ks.length)] 64)),(nb ρ2 6,(cL (bW.row (gT s.ts 0)) 46))] ?_)))
 exact mR (v:=(.tuple #[.slice (oa ρ8 3) (sgB (gU (s.ns.take (gT s.ts 0).ks.length) 0)).length (nb ρ8 3),vi 0])) (fun _ hS=>⟨oa ρ8 3,nb ρ8 3,congrArg (fun z:List UInt8=>Ending.returned (.tuple #[.slice _ z.length _,.int .i64 0])) (congrArg sgB (gU_take (show 0<s.fst.ks.length from (by have:=vV hc;unfold o7 at this;omega)))),hS.below,hS.knows [1,0],dU (congrArg sgB (gU_take (show 0<s.fst.ks.length from (by have:=vV hc;unfold o7 at this;omega)))) hS.facts.now.2.2.2.2.2.1⟩)
theorem next2_any (g:Nat) (s:Mk) (hk:s.fst.kd=2) (hc:s.can=true) (_ho:mP s.ts) (hU:∀ n∈s.ns,n<M) (h2:s.fst.ks.length=2) (w0:World) (hK:Knows [(g,(cL #[.slice s.ta s.ts.length s.tc,.slice s.ka s.ns.length s.kc] 64))] w0) (hP:dL (fun b=>b∈([(g,(cL #[.slice s.ta s.ts.length s.tc,.slice s.ka s.ns.length s.kc] 64))]:List (Nat × Obj)).map (·.1)) (fun w=>bM w s.ta s.tc s.ts∧Us w s.ka s.kc s.ns∧True) w0):Calls Tryz.prog 26 #[pt g] w0 (fun ε w'=>∃ α κ,ε=.returned (.tuple #[.slice α (mlB s.fst.m (s.ns.take s.fst.ks.length)).length κ,.int .i64 0])∧nN (fun b=>b∈([(g,(cL #[.slice s.ta s.ts.length s.tc,.slice s.ka s.ns.length s.kc] 64))]:List (Nat × Obj)).map (·.1)) w0 w'∧Knows [(g,(cL #[.slice s.go.ta s.go.ts.length s.go.tc,.slice s.go.ka s.go.ns.length s.go.kc] 64))] w'∧Fs w0 w' α κ (mlB s.fst.m (s.ns.take s.fst.ks.length))):=by
 refine Calls.of_okW (n:=97) (F:=(fun w=>bM w s.ta s.tc s.ts∧Us w s.ka s.kc s.ns∧True)) [(g,(cL #[.slice s.ta s.ts.length s.tc,.slice s.ka s.ns.length s.kc] 64))] Tryz.func26 rfl rfl rfl (by simp) hK (by simp) hP ?_
 refine jJ Tryz.f26 2 [0,2,3] [vz,vi 0] ?_
 refine sS Tryz.f26 8 [0,2,3,4] [] (fun ρ=>[pt g,pt g,pt g,.slice s.ta s.ts.length s.tc,.pointer (fK s.ta (0*36)),.agg (bW.row (gT s.ts 0)),pt (nb ρ 6),undef]) (fun ρ=>[(6,(nw ρ 6 (cL (iC 0 0 0 0 vz) 46))),(7,(bD 49 (nb ρ 6) (cL (bW.row (gT s.ts 0)) 46)))]) (cR [[],[],[],[0]]<|cX (qF (fun _ _ _ hG=>bM.idx (k:=.i64) Tryz.underlying24 Tryz.sizeOf46 hG.fn.1 rfl (show (0:Int)=((0:Nat):Int) from rfl) (show 0<s.ts.length from eX hc)))<|cX (qF (fun _ _ _ hG=>bM.ldA (i:=0) Tryz.isAgg46 Tryz.sizeOf46 hG.fn.1 (show 0<s.ts.length from eX hc)))<|jE [[],[49]]) (fun ρ2=>?_)
 refine iZ Tryz.f26 9 [0,2,3,4] [] (fun _=>[pt g,pt g,pt g,pt g,.slice s.ta s.ts.length s.tc,.slice (jA s.ta s.tc 1 36) s.ts.tail.length (s.tc-1),pt g,pt g,undef]) (fun _=>[(8,(bD 0 g (cL #[.slice (jA s.ta s.tc 1 36) s.ts.tail.length (s.tc-1),.slice s.ka s.ns.length s.kc] 64)))]) (fun _=>[(5,fun w=>bM w (jA s.ta s.tc 1 36) (s.tc-1) s.ts.tail)]) (fun _=>(fun w=>bM w s.ta s.tc s.ts∧Us w s.ka s.kc s.ns∧bM w (jA s.ta s.tc 1 36) (s.tc-1) s.ts.tail∧True)) (fun _=>True) (fun _ _ hF hf=>⟨⟨hF.1,hF.2.1,hf 5,trivial⟩,trivial⟩) (cR [[],[],[],[],[0]]<|cX (jF (fun _=>Instr.sliceAt 24 (.slice s.ta s.ts.length s.tc) (some (vi 1)) none none) (fun _=>(.slice (jA s.ta s.tc 1 36) s.ts.tail.length (s.tc-1))) (fun _ _ _ hG=>fP (k:=1) Tryz.underlying24 Tryz.sizeOf46 rfl (jI (rfl)) (eX hc) hG.fn.1.le (by rw [List.length_tail])) (fun _ _ w hG=>hG.facts0.mono (fun _ hF=>hF.1.tail (eX hc))))<|jE [[],[],[0]]) (fun _ _=>?_)
 refine sDf Tryz.f26 [0,1,3,7,0,16,48,127,255] 9 [0,2,3,4,5] [] (fun _=>let qa:Value:=.slice s.ka (s.ns.take (gT s.ts 0).ks.length).length s.kc;[pt g,pt g,jp g 1,.slice s.ka s.ns.length s.kc,jp (nb ρ2 6) 35,.slice (gT s.ts 0).ka (gT s.ts 0).ks.length (gT s.ts 0).kc,vn (gT s.ts 0).ks.length,qa,qa]) (fun _=>[]) (fun _=>[(7,fun w=>Us w s.ka s.kc (s.ns.take (gT s.ts 0).ks.length))]) (fun _=>(fun w=>bM w s.ta s.tc s.ts∧Us w s.ka s.kc s.ns∧bM w (jA s.ta s.tc 1 36) (s.tc-1) s.ts.tail∧Us w s.ka s.kc (s.ns.take (gT s.ts 0).ks.length)∧True)) (fun _=>True) (fun _ _ hF hf=>⟨⟨hF.1,hF.2.1,hF.2.2.1,hf 7,trivial⟩,trivial⟩) (cR [[],[],[],[0],[],[1],[]]<|cX (jF (fun _=>Instr.sliceAt 29 (.slice s.ka s.ns.length s.kc) none (some (vn (gT s.ts 0).ks.length)) none) (fun _=>(.slice s.ka (s.ns.take (gT s.ts 0).ks.length).length s.kc)) (fun _ _ _ hG=>pY (k:=(gT s.ts 0).ks.length) Tryz.underlying29 Tryz.sizeOf39 rfl (jI (rfl)) (fE hc) hG.fn.2.1.le (by rw [List.length_take];exact (Nat.min_eq_left (fE hc)).symm)) (fun _ _ w hG=>hG.facts0.mono (fun _ hF=>hF.2.1.take (gT s.ts 0).ks.length)))<|jE [[]]) (fun _ _=>?_)
 refine sDf Tryz.f26 [0,0,2,6,14,0,32,96,254,511,1023,2047] 12 [0,2,3,4,5] [] (fun _=>[pt g,pt g,pt g,jp g 1,.slice s.ka s.ns.length s.kc,jp (nb ρ2 6) 35,.slice (gT s.ts 0).ka (gT s.ts 0).ks.length (gT s.ts 0).kc,vn (gT s.ts 0).ks.length,.slice (jA s.ka s.kc (gT s.ts 0).ks.length 4) (s.ns.drop (gT s.ts 0).ks.length).length (s.kc-(gT s.ts 0).ks.length),pt g,jp g 1,undef]) (fun _=>[(11,(bD 0 g (cL #[.slice (jA s.ta s.tc 1 36) s.ts.tail.length (s.tc-1),.slice (jA s.ka s.kc (gT s.ts 0).ks.length 4) (s.ns.drop (gT s.ts 0).ks.length).length (s.kc-(gT s.ts 0).ks.length)] 64)))]) (fun _=>[(8,fun w=>Us w (jA s.ka s.kc (gT s.ts 0).ks.length 4) (s.kc-(gT s.ts 0).ks.length) (s.ns.drop (gT s.ts 0).ks.length))]) (fun _=>(fun w=>bM w s.ta s.tc s.ts∧Us w s.ka s.kc s.ns∧bM w (jA s.ta s.tc 1 36) (s.tc-1) s.ts.tail∧Us w s.ka s.kc (s.ns.take (gT s.ts 0).ks.length)∧Us w (jA s.ka s.kc (gT s.ts 0).ks.length 4) (s.kc-(gT s.ts 0).ks.length) (s.ns.drop (gT s.ts 0).ks.length)∧True)) (fun _=>True) (fun _ _ hF hf=>⟨⟨hF.1,hF.2.1,hF.2.2.1,hF.2.2.2.1,hf 8,trivial⟩,trivial⟩) (cR [[],[],[],[],[0],[],[1],[]]<|cX (jF (fun _=>Instr.sliceAt 29 (.slice s.ka s.ns.length s.kc) (some (vn (gT s.ts 0).ks.length)) none none) (fun _=>(.slice (jA s.ka s.kc (gT s.ts 0).ks.length 4) (s.ns.drop (gT s.ts 0).ks.length).length (s.kc-(gT s.ts 0).ks.length))) (fun _ _ _ hG=>fP (k:=(gT s.ts 0).ks.length) Tryz.underlying29 Tryz.sizeOf39 rfl (jI (rfl)) (fE hc) hG.fn.2.1.le (by rw [List.length_drop])) (fun _ _ w hG=>hG.facts0.mono (fun _ hF=>hF.2.1.drop (fE hc))))<|jE [[],[],[0]]) (fun _ _=>?_)
 refine aB (jM Tryz.f26 2 [0,2,3,4,5,43] [] [pt (nb ρ2 6),vi (gT s.ts 0).kd] [[],[1]] (aI ?_))
 refine sS Tryz.f26 2 [0,2,3,4,5,43,44] [] (fun _=>[vF,vF]) (fun _=>[]) (jQ (fun ρ=>((gT s.ts 0).kd==1)) false (fun _=>(jK hk rfl))<|jE [[]]) (fun _=>?_)
 refine lK [(0,(pt g)),(2,vz),(3,(vi 0)),(4,(pt (nb ρ2 6))),(5,(.slice s.ka (s.ns.take (gT s.ts 0).ks.length).length s.kc)),(43,(vi (gT s.ts 0).kd)),(44,vF)] [(g,(cL #[.slice (jA s.ta s.tc 1 36) s.ts.tail.length (s.tc-1),.slice (jA s.ka s.kc (gT s.ts 0).ks.length 4) (s.ns.drop (gT s.ts 0).ks.length).length (s.kc-(gT s.ts 0).ks.length)] 64)),(nb ρ2 6,(cL (bW.row (gT s.ts 0)) 46))] ?_
 refine oN ?_
 refine sS Tryz.f26 2 [0,2,3,4,5,50] [] (fun _=>[vT,vT]) (fun _=>[]) (jQ (fun ρ=>((gT s.ts 0).kd==2)) true (fun _=>(jK hk rfl))<|jE [[]]) (fun _=>?_)
 refine oY ?_
 refine iZ Tryz.f26 8 [0,2,3,4] [] (fun ρ=>let qa:Value:=.slice (oa ρ 3) (mlB (gT s.ts 0).m (s.ns.take (gT s.ts 0).ks.length)).length (nb ρ 3);[jp (nb ρ2 6) 1,vi (gT s.ts 0).m,.slice s.ka (s.ns.take (gT s.ts 0).ks.length).length s.kc,.tuple #[qa,vi 0],qa,vi 0,qa,vi 0]) (fun _=>[]) (fun ρ=>[(3,fun w=>Fs w0 w (oa ρ 3) (nb ρ 3) (mlB (gT s.ts 0).m (s.ns.take (gT s.ts 0).ks.length)))]) (fun ρ=>(fun w=>bM w s.ta s.tc s.ts∧Us w s.ka s.kc s.ns∧bM w (jA s.ta s.tc 1 36) (s.tc-1) s.ts.tail∧Us w s.ka s.kc (s.ns.take (gT s.ts 0).ks.length)∧Us w (jA s.ka s.kc (gT s.ts 0).ks.length 4) (s.kc-(gT s.ts 0).ks.length) (s.ns.drop (gT s.ts 0).ks.length)∧Fs w0 w (oa ρ 3) (nb ρ 3) (mlB (gT s.ts 0).m (s.ns.take (gT s.ts 0).ks.length))∧True)) (fun _=>True) (fun _ _ hF hf=>⟨⟨hF.1,hF.2.1,hF.2.2.1,hF.2.2.2.1,hF.2.2.2.2.1,hf 3,trivial⟩,trivial⟩) (cR [[],[1],[]]<|cX (qB (fun _ _ w hG=>multi_any (gT s.ts 0).m s.ka s.kc (s.ns.take (gT s.ts 0).ks.length) (fun n hn=>hU n (List.mem_of_mem_take hn)) (by rw [List.length_take];have:=fE hc;have h1:=vV hc;unfold o7 at h1;have:=hk;have:=h2;have e:(gT s.ts 0).ks.length=s.fst.ks.length:=rfl;have e2:(gT s.ts 0).m=s.fst.m:=rfl;omega) (by rw [List.length_take];have:=fE hc;have h1:=vV hc;unfold o7 at h1;have:=hk;have e:(gT s.ts 0).ks.length=s.fst.ks.length:=rfl;have e2:(gT s.ts 0).m=s.fst.m:=rfl;omega) w hG.fn.2.2.2.1))<|jE [[],[],[],[]]) (fun ρ9 _=>?_)
 refine aF (aP (aC (mD [(0,(pt g)),(2,(.slice (oa ρ9 3) (mlB (gT s.ts 0).m (s.ns.take (gT s.ts 0).ks.length)).length (nb ρ9 3))),(3,(vi 0)),(4,(pt (nb ρ2 6)))] [(g,(cL #[.slice (jA s.ta s.tc 1 36) s.ts.tail.length (s.tc-1),.slice (jA s.ka s.kc (gT s.ts 0).ks.length 4) (s.ns.drop (gT s.ts 0).ks.length).length (s.kc-(gT s.ts 0).ks.length)] 64)),(nb ρ2 6,(cL (bW.row (gT s.ts 0)) 46))] ?_)))
 exact mR (v:=(.tuple #[.slice (oa ρ9 3) (mlB (gT s.ts 0).m (s.ns.take (gT s.ts 0).ks.length)).length (nb ρ9 3),vi 0])) (fun _ hS=>⟨oa ρ9 3,nb ρ9 3,rfl,hS.below,hS.knows [1,0],dU (rfl) hS.facts.now.2.2.2.2.2.1⟩)
theorem next3_any (g:Nat) (s:Mk) (x:List UInt8) (s1:Mk) (hk:s.fst.kd=3) (hc:s.can=true) (ho:mP s.ts) (_hU:∀ n∈s.ns,n<M) (hx:x.length≤1000000) (w0:World) (hK:Knows [(g,(cL #[.slice s.ta s.ts.length s.tc,.slice s.ka s.ns.length s.kc] 64))] w0) (hP:dL (fun b=>b∈([(g,(cL #[.slice s.ta s.ts.length s.tc,.slice s.ka s.ns.length s.kc] 64))]:List (Nat × Obj)).map (·.1)) (fun w=>bM w s.ta s.tc s.ts∧Us w s.ka s.kc s.ns∧True) w0) (ih:NextC g s.go x s1):Calls Tryz.prog 26 #[pt g] w0 (fun ε w'=>∃ α κ,ε=.returned (.tuple #[.slice α (afB s.fst.nu x).length κ,.int .i64 0])∧nN (fun b=>b∈([(g,(cL #[.slice s.ta s.ts.length s.tc,.slice s.ka s.ns.length s.kc] 64))]:List (Nat × Obj)).map (·.1)) w0 w'∧Knows [(g,(cL #[.slice s1.ta s1.ts.length s1.tc,.slice s1.ka s1.ns.length s1.kc] 64))] w'∧Fs w0 w' α κ (afB s.fst.nu x)):=by
 refine Calls.of_okW (n:=97) (F:=(fun w=>bM w s.ta s.tc s.ts∧Us w s.ka s.kc s.ns∧True)) [(g,(cL #[.slice s.ta s.ts.length s.tc,.slice s.ka s.ns.length s.kc] 64))] Tryz.func26 rfl rfl rfl (by simp) hK (by simp) hP ?_
 refine jJ Tryz.f26 2 [0,2,3] [vz,vi 0] ?_
 refine sS Tryz.f26 8 [0,2,3,4] [] (fun ρ=>[pt g,pt g,pt g,.slice s.ta s.ts.length s.tc,.pointer (fK s.ta (0*36)),.agg (bW.row (gT s.ts 0)),pt (nb ρ 6),undef]) (fun ρ=>[(6,(nw ρ 6 (cL (iC 0 0 0 0 vz) 46))),(7,(bD 49 (nb ρ 6) (cL (bW.row (gT s.ts 0)) 46)))]) (cR [[],[],[],[0]]<|cX (qF (fun _ _ _ hG=>bM.idx (k:=.i64) Tryz.underlying24 Tryz.sizeOf46 hG.fn.1 rfl (show (0:Int)=((0:Nat):Int) from rfl) (show 0<s.ts.length from eX hc)))<|cX (qF (fun _ _ _ hG=>bM.ldA (i:=0) Tryz.isAgg46 Tryz.sizeOf46 hG.fn.1 (show 0<s.ts.length from eX hc)))<|jE [[],[49]]) (fun ρ2=>?_)
 refine iZ Tryz.f26 9 [0,2,3,4] [] (fun _=>[pt g,pt g,pt g,pt g,.slice s.ta s.ts.length s.tc,.slice (jA s.ta s.tc 1 36) s.ts.tail.length (s.tc-1),pt g,pt g,undef]) (fun _=>[(8,(bD 0 g (cL #[.slice (jA s.ta s.tc 1 36) s.ts.tail.length (s.tc-1),.slice s.ka s.ns.length s.kc] 64)))]) (fun _=>[(5,fun w=>bM w (jA s.ta s.tc 1 36) (s.tc-1) s.ts.tail)]) (fun _=>(fun w=>bM w s.ta s.tc s.ts∧Us w s.ka s.kc s.ns∧bM w (jA s.ta s.tc 1 36) (s.tc-1) s.ts.tail∧True)) (fun _=>True) (fun _ _ hF hf=>⟨⟨hF.1,hF.2.1,hf 5,trivial⟩,trivial⟩) (cR [[],[],[],[],[0]]<|cX (jF (fun _=>Instr.sliceAt 24 (.slice s.ta s.ts.length s.tc) (some (vi 1)) none none) (fun _=>(.slice (jA s.ta s.tc 1 36) s.ts.tail.length (s.tc-1))) (fun _ _ _ hG=>fP (k:=1) Tryz.underlying24 Tryz.sizeOf46 rfl (jI (rfl)) (eX hc) hG.fn.1.le (by rw [List.length_tail])) (fun _ _ w hG=>hG.facts0.mono (fun _ hF=>hF.1.tail (eX hc))))<|jE [[],[],[0]]) (fun _ _=>?_)
 refine sDf Tryz.f26 [0,1,3,7,0,16,48,127,255] 9 [0,2,3,4,5] [] (fun _=>let qa:Value:=.slice s.ka (s.ns.take (gT s.ts 0).ks.length).length s.kc;[pt g,pt g,jp g 1,.slice s.ka s.ns.length s.kc,jp (nb ρ2 6) 35,.slice (gT s.ts 0).ka (gT s.ts 0).ks.length (gT s.ts 0).kc,vn (gT s.ts 0).ks.length,qa,qa]) (fun _=>[]) (fun _=>[(7,fun w=>Us w s.ka s.kc (s.ns.take (gT s.ts 0).ks.length))]) (fun _=>(fun w=>bM w s.ta s.tc s.ts∧Us w s.ka s.kc s.ns∧bM w (jA s.ta s.tc 1 36) (s.tc-1) s.ts.tail∧Us w s.ka s.kc (s.ns.take (gT s.ts 0).ks.length)∧True)) (fun _=>True) (fun _ _ hF hf=>⟨⟨hF.1,hF.2.1,hF.2.2.1,hf 7,trivial⟩,trivial⟩) (cR [[],[],[],[0],[],[1],[]]<|cX (jF (fun _=>Instr.sliceAt 29 (.slice s.ka s.ns.length s.kc) none (some (vn (gT s.ts 0).ks.length)) none) (fun _=>(.slice s.ka (s.ns.take (gT s.ts 0).ks.length).length s.kc)) (fun _ _ _ hG=>pY (k:=(gT s.ts 0).ks.length) Tryz.underlying29 Tryz.sizeOf39 rfl (jI (rfl)) (fE hc) hG.fn.2.1.le (by rw [List.length_take];exact (Nat.min_eq_left (fE hc)).symm)) (fun _ _ w hG=>hG.facts0.mono (fun _ hF=>hF.2.1.take (gT s.ts 0).ks.length)))<|jE [[]]) (fun _ _=>?_)
 refine sDf Tryz.f26 [0,0,2,6,14,0,32,96,254,511,1023,2047] 12 [0,2,3,4,5] [] (fun _=>[pt g,pt g,pt g,jp g 1,.slice s.ka s.ns.length s.kc,jp (nb ρ2 6) 35,.slice (gT s.ts 0).ka (gT s.ts 0).ks.length (gT s.ts 0).kc,vn (gT s.ts 0).ks.length,.slice (jA s.ka s.kc (gT s.ts 0).ks.length 4) (s.ns.drop (gT s.ts 0).ks.length).length (s.kc-(gT s.ts 0).ks.length),pt g,jp g 1,undef]) (fun _=>[(11,(bD 0 g (cL #[.slice (jA s.ta s.tc 1 36) s.ts.tail.length (s.tc-1),.slice (jA s.ka s.kc (gT s.ts 0).ks.length 4) (s.ns.drop (gT s.ts 0).ks.length).length (s.kc-(gT s.ts 0).ks.length)] 64)))]) (fun _=>[(8,fun w=>Us w (jA s.ka s.kc (gT s.ts 0).ks.length 4) (s.kc-(gT s.ts 0).ks.length) (s.ns.drop (gT s.ts 0).ks.length))]) (fun _=>(fun w=>bM w s.ta s.tc s.ts∧Us w s.ka s.kc s.ns∧bM w (jA s.ta s.tc 1 36) (s.tc-1) s.ts.tail∧Us w s.ka s.kc (s.ns.take (gT s.ts 0).ks.length)∧Us w (jA s.ka s.kc (gT s.ts 0).ks.length 4) (s.kc-(gT s.ts 0).ks.length) (s.ns.drop (gT s.ts 0).ks.length)∧True)) (fun _=>True) (fun _ _ hF hf=>⟨⟨hF.1,hF.2.1,hF.2.2.1,hF.2.2.2.1,hf 8,trivial⟩,trivial⟩) (cR [[],[],[],[],[0],[],[1],[]]<|cX (jF (fun _=>Instr.sliceAt 29 (.slice s.ka s.ns.length s.kc) (some (vn (gT s.ts 0).ks.length)) none none) (fun _=>(.slice (jA s.ka s.kc (gT s.ts 0).ks.length 4) (s.ns.drop (gT s.ts 0).ks.length).length (s.kc-(gT s.ts 0).ks.length))) (fun _ _ _ hG=>fP (k:=(gT s.ts 0).ks.length) Tryz.underlying29 Tryz.sizeOf39 rfl (jI (rfl)) (fE hc) hG.fn.2.1.le (by rw [List.length_drop])) (fun _ _ w hG=>hG.facts0.mono (fun _ hF=>hF.2.1.drop (fE hc))))<|jE [[],[],[0]]) (fun _ _=>?_)
 refine aB (jM Tryz.f26 2 [0,2,3,4,5,43] [] [pt (nb ρ2 6),vi (gT s.ts 0).kd] [[],[1]] (aI ?_))
 refine sS Tryz.f26 2 [0,2,3,4,5,43,44] [] (fun _=>[vF,vF]) (fun _=>[]) (jQ (fun ρ=>((gT s.ts 0).kd==1)) false (fun _=>(jK hk rfl))<|jE [[]]) (fun _=>?_)
 refine lK [(0,(pt g)),(2,vz),(3,(vi 0)),(4,(pt (nb ρ2 6))),(5,(.slice s.ka (s.ns.take (gT s.ts 0).ks.length).length s.kc)),(43,(vi (gT s.ts 0).kd)),(44,vF)] [(g,(cL #[.slice (jA s.ta s.tc 1 36) s.ts.tail.length (s.tc-1),.slice (jA s.ka s.kc (gT s.ts 0).ks.length 4) (s.ns.drop (gT s.ts 0).ks.length).length (s.kc-(gT s.ts 0).ks.length)] 64)),(nb ρ2 6,(cL (bW.row (gT s.ts 0)) 46))] ?_
 refine oN ?_
 refine sS Tryz.f26 2 [0,2,3,4,5,50] [] (fun _=>[vF,vF]) (fun _=>[]) (jQ (fun ρ=>((gT s.ts 0).kd==2)) false (fun _=>(jK hk rfl))<|jE [[]]) (fun _=>?_)
 refine oN ?_
 refine aG (aJ (aA ?_))
 refine iZ Tryz.f26 7 [0,2,3,4,6,7] [] (fun ρ=>let qa:Value:=.slice (oa ρ 1) x.length (nb ρ 1);[pt g,.tuple #[qa,vi 0],.tuple #[qa,vi 0],qa,vi 0,qa,vi 0]) (fun _=>[(1,(bD 0 g (cL #[.slice s1.ta s1.ts.length s1.tc,.slice s1.ka s1.ns.length s1.kc] 64)))]) (fun ρ=>[(1,fun w=>Fs w0 w (oa ρ 1) (nb ρ 1) x)]) (fun ρ=>(fun w=>bM w s.ta s.tc s.ts∧Us w s.ka s.kc s.ns∧bM w (jA s.ta s.tc 1 36) (s.tc-1) s.ts.tail∧Us w s.ka s.kc (s.ns.take (gT s.ts 0).ks.length)∧Us w (jA s.ka s.kc (gT s.ts 0).ks.length 4) (s.kc-(gT s.ts 0).ks.length) (s.ns.drop (gT s.ts 0).ks.length)∧Fs w0 w (oa ρ 1) (nb ρ 1) x∧True)) (fun _=>True) (fun _ _ hF hf=>⟨⟨hF.1,hF.2.1,hF.2.2.1,hF.2.2.2.1,hF.2.2.2.2.1,hf 1,trivial⟩,trivial⟩) (cR [[]]<|cX (qWB [0] (fun _ _ w hG hK=>ih w hK (hG.pK [0] (fun _ hF=>⟨hF.2.2.1,hF.2.2.2.2.1,trivial⟩))))<|jE [[],[],[],[],[]]) (fun ρ9 _=>?_)
 refine aB (jJ Tryz.f26 2 [0,2,3,4,6,7,64] [vi 0,vF] ?_)
 refine oN ?_
 refine aG (aA (aB (jM Tryz.f26 2 [0,2,3,4,6,7,67] [] [pt (nb ρ2 6),vi (gT s.ts 0).kd] [[],[1]] (aI ?_))))
 refine sS Tryz.f26 2 [0,2,3,4,6,7,67,68] [] (fun _=>[vT,vT]) (fun _=>[]) (jQ (fun ρ=>((gT s.ts 0).kd==3)) true (fun _=>(jK hk rfl))<|jE [[]]) (fun _=>?_)
 refine oY ?_
 refine iZ Tryz.f26 6 [0,2,3,6,7] [1,0] (fun ρ=>let qa:Value:=.slice (oa ρ 3) (afB (gT s.ts 0).nu x).length (nb ρ 3);[jp (nb ρ2 6) 2,vu ((gT s.ts 0).nu),.slice (oa ρ9 1) x.length (nb ρ9 1),qa,qa,vi 0]) (fun _=>[]) (fun ρ=>[(3,fun w=>Fs w0 w (oa ρ 3) (nb ρ 3) (afB (gT s.ts 0).nu x))]) (fun ρ=>(fun w=>bM w s.ta s.tc s.ts∧Us w s.ka s.kc s.ns∧bM w (jA s.ta s.tc 1 36) (s.tc-1) s.ts.tail∧Us w s.ka s.kc (s.ns.take (gT s.ts 0).ks.length)∧Us w (jA s.ka s.kc (gT s.ts 0).ks.length 4) (s.kc-(gT s.ts 0).ks.length) (s.ns.drop (gT s.ts 0).ks.length)∧Fs w0 w (oa ρ9 1) (nb ρ9 1) x∧Fs w0 w (oa ρ 3) (nb ρ 3) (afB (gT s.ts 0).nu x)∧True)) (fun _=>True) (fun _ _ hF hf=>⟨⟨hF.1,hF.2.1,hF.2.2.1,hF.2.2.2.1,hF.2.2.2.2.1,hF.2.2.2.2.2.1,hf 3,trivial⟩,trivial⟩) (cR [[],[1],[]]<|cX (qB (fun _ _ w hG=>after_any (gT s.ts 0).nu (oa ρ9 1) (nb ρ9 1) x (ho.gT 0).nu hx w hG.fn.2.2.2.2.2.1.1))<|jE [[],[]]) (fun ρ13 _=>?_)
 refine aF (aP (aC (mD [(0,(pt g)),(2,(.slice (oa ρ13 3) (afB (gT s.ts 0).nu x).length (nb ρ13 3))),(3,(vi 0)),(6,(.slice (oa ρ9 1) x.length (nb ρ9 1))),(7,(vi 0))] [(g,(cL #[.slice s1.ta s1.ts.length s1.tc,.slice s1.ka s1.ns.length s1.kc] 64))] ?_)))
 exact mR (v:=(.tuple #[.slice (oa ρ13 3) (afB (gT s.ts 0).nu x).length (nb ρ13 3),vi 0])) (fun _ hS=>⟨oa ρ13 3,nb ρ13 3,rfl,hS.below,hS.knows [1],dU (rfl) hS.facts.now.2.2.2.2.2.2.1⟩)
theorem next4_any (g:Nat) (s:Mk) (x:List UInt8) (s1:Mk) (hk:s.fst.kd=4) (hc:s.can=true) (ho:mP s.ts) (_hU:∀ n∈s.ns,n<M) (hx:x.length≤1000000) (w0:World) (hK:Knows [(g,(cL #[.slice s.ta s.ts.length s.tc,.slice s.ka s.ns.length s.kc] 64))] w0) (hP:dL (fun b=>b∈([(g,(cL #[.slice s.ta s.ts.length s.tc,.slice s.ka s.ns.length s.kc] 64))]:List (Nat × Obj)).map (·.1)) (fun w=>bM w s.ta s.tc s.ts∧Us w s.ka s.kc s.ns∧True) w0) (ih:NextC g s.go x s1):Calls Tryz.prog 26 #[pt g] w0 (fun ε w'=>∃ α κ,ε=.returned (.tuple #[.slice α (olB s.fst.nu x).length κ,.int .i64 0])∧nN (fun b=>b∈([(g,(cL #[.slice s.ta s.ts.length s.tc,.slice s.ka s.ns.length s.kc] 64))]:List (Nat × Obj)).map (·.1)) w0 w'∧Knows [(g,(cL #[.slice s1.ta s1.ts.length s1.tc,.slice s1.ka s1.ns.length s1.kc] 64))] w'∧Fs w0 w' α κ (olB s.fst.nu x)):=by
 refine Calls.of_okW (n:=97) (F:=(fun w=>bM w s.ta s.tc s.ts∧Us w s.ka s.kc s.ns∧True)) [(g,(cL #[.slice s.ta s.ts.length s.tc,.slice s.ka s.ns.length s.kc] 64))] Tryz.func26 rfl rfl rfl (by simp) hK (by simp) hP ?_
 refine jJ Tryz.f26 2 [0,2,3] [vz,vi 0] ?_
 refine sS Tryz.f26 8 [0,2,3,4] [] (fun ρ=>[pt g,pt g,pt g,.slice s.ta s.ts.length s.tc,.pointer (fK s.ta (0*36)),.agg (bW.row (gT s.ts 0)),pt (nb ρ 6),undef]) (fun ρ=>[(6,(nw ρ 6 (cL (iC 0 0 0 0 vz) 46))),(7,(bD 49 (nb ρ 6) (cL (bW.row (gT s.ts 0)) 46)))]) (cR [[],[],[],[0]]<|cX (qF (fun _ _ _ hG=>bM.idx (k:=.i64) Tryz.underlying24 Tryz.sizeOf46 hG.fn.1 rfl (show (0:Int)=((0:Nat):Int) from rfl) (show 0<s.ts.length from eX hc)))<|cX (qF (fun _ _ _ hG=>bM.ldA (i:=0) Tryz.isAgg46 Tryz.sizeOf46 hG.fn.1 (show 0<s.ts.length from eX hc)))<|jE [[],[49]]) (fun ρ2=>?_)
 refine iZ Tryz.f26 9 [0,2,3,4] [] (fun _=>[pt g,pt g,pt g,pt g,.slice s.ta s.ts.length s.tc,.slice (jA s.ta s.tc 1 36) s.ts.tail.length (s.tc-1),pt g,pt g,undef]) (fun _=>[(8,(bD 0 g (cL #[.slice (jA s.ta s.tc 1 36) s.ts.tail.length (s.tc-1),.slice s.ka s.ns.length s.kc] 64)))]) (fun _=>[(5,fun w=>bM w (jA s.ta s.tc 1 36) (s.tc-1) s.ts.tail)]) (fun _=>(fun w=>bM w s.ta s.tc s.ts∧Us w s.ka s.kc s.ns∧bM w (jA s.ta s.tc 1 36) (s.tc-1) s.ts.tail∧True)) (fun _=>True) (fun _ _ hF hf=>⟨⟨hF.1,hF.2.1,hf 5,trivial⟩,trivial⟩) (cR [[],[],[],[],[0]]<|cX (jF (fun _=>Instr.sliceAt 24 (.slice s.ta s.ts.length s.tc) (some (vi 1)) none none) (fun _=>(.slice (jA s.ta s.tc 1 36) s.ts.tail.length (s.tc-1))) (fun _ _ _ hG=>fP (k:=1) Tryz.underlying24 Tryz.sizeOf46 rfl (jI (rfl)) (eX hc) hG.fn.1.le (by rw [List.length_tail])) (fun _ _ w hG=>hG.facts0.mono (fun _ hF=>hF.1.tail (eX hc))))<|jE [[],[],[0]]) (fun _ _=>?_)
 refine sDf Tryz.f26 [0,1,3,7,0,16,48,127,255] 9 [0,2,3,4,5] [] (fun _=>let qa:Value:=.slice s.ka (s.ns.take (gT s.ts 0).ks.length).length s.kc;[pt g,pt g,jp g 1,.slice s.ka s.ns.length s.kc,jp (nb ρ2 6) 35,.slice (gT s.ts 0).ka (gT s.ts 0).ks.length (gT s.ts 0).kc,vn (gT s.ts 0).ks.length,qa,qa]) (fun _=>[]) (fun _=>[(7,fun w=>Us w s.ka s.kc (s.ns.take (gT s.ts 0).ks.length))]) (fun _=>(fun w=>bM w s.ta s.tc s.ts∧Us w s.ka s.kc s.ns∧bM w (jA s.ta s.tc 1 36) (s.tc-1) s.ts.tail∧Us w s.ka s.kc (s.ns.take (gT s.ts 0).ks.length)∧True)) (fun _=>True) (fun _ _ hF hf=>⟨⟨hF.1,hF.2.1,hF.2.2.1,hf 7,trivial⟩,trivial⟩) (cR [[],[],[],[0],[],[1],[]]<|cX (jF (fun _=>Instr.sliceAt 29 (.slice s.ka s.ns.length s.kc) none (some (vn (gT s.ts 0).ks.length)) none) (fun _=>(.slice s.ka (s.ns.take (gT s.ts 0).ks.length).length s.kc)) (fun _ _ _ hG=>pY (k:=(gT s.ts 0).ks.length) Tryz.underlying29 Tryz.sizeOf39 rfl (jI (rfl)) (fE hc) hG.fn.2.1.le (by rw [List.length_take];exact (Nat.min_eq_left (fE hc)).symm)) (fun _ _ w hG=>hG.facts0.mono (fun _ hF=>hF.2.1.take (gT s.ts 0).ks.length)))<|jE [[]]) (fun _ _=>?_)
 refine sDf Tryz.f26 [0,0,2,6,14,0,32,96,254,511,1023,2047] 12 [0,2,3,4,5] [] (fun _=>[pt g,pt g,pt g,jp g 1,.slice s.ka s.ns.length s.kc,jp (nb ρ2 6) 35,.slice (gT s.ts 0).ka (gT s.ts 0).ks.length (gT s.ts 0).kc,vn (gT s.ts 0).ks.length,.slice (jA s.ka s.kc (gT s.ts 0).ks.length 4) (s.ns.drop (gT s.ts 0).ks.length).length (s.kc-(gT s.ts 0).ks.length),pt g,jp g 1,undef]) (fun _=>[(11,(bD 0 g (cL #[.slice (jA s.ta s.tc 1 36) s.ts.tail.length (s.tc-1),.slice (jA s.ka s.kc (gT s.ts 0).ks.length 4) (s.ns.drop (gT s.ts 0).ks.length).length (s.kc-(gT s.ts 0).ks.length)] 64)))]) (fun _=>[(8,fun w=>Us w (jA s.ka s.kc (gT s.ts 0).ks.length 4) (s.kc-(gT s.ts 0).ks.length) (s.ns.drop (gT s.ts 0).ks.length))]) (fun _=>(fun w=>bM w s.ta s.tc s.ts∧Us w s.ka s.kc s.ns∧bM w (jA s.ta s.tc 1 36) (s.tc-1) s.ts.tail∧Us w s.ka s.kc (s.ns.take (gT s.ts 0).ks.length)∧Us w (jA s.ka s.kc (gT s.ts 0).ks.length 4) (s.kc-(gT s.ts 0).ks.length) (s.ns.drop (gT s.ts 0).ks.length)∧True)) (fun _=>True) (fun _ _ hF hf=>⟨⟨hF.1,hF.2.1,hF.2.2.1,hF.2.2.2.1,hf 8,trivial⟩,trivial⟩) (cR [[],[],[],[],[0],[],[1],[]]<|cX (jF (fun _=>Instr.sliceAt 29 (.slice s.ka s.ns.length s.kc) (some (vn (gT s.ts 0).ks.length)) none none) (fun _=>(.slice (jA s.ka s.kc (gT s.ts 0).ks.length 4) (s.ns.drop (gT s.ts 0).ks.length).length (s.kc-(gT s.ts 0).ks.length))) (fun _ _ _ hG=>fP (k:=(gT s.ts 0).ks.length) Tryz.underlying29 Tryz.sizeOf39 rfl (jI (rfl)) (fE hc) hG.fn.2.1.le (by rw [List.length_drop])) (fun _ _ w hG=>hG.facts0.mono (fun _ hF=>hF.2.1.drop (fE hc))))<|jE [[],[],[0]]) (fun _ _=>?_)
 refine aB (jM Tryz.f26 2 [0,2,3,4,5,43] [] [pt (nb ρ2 6),vi (gT s.ts 0).kd] [[],[1]] (aI ?_))
 refine sS Tryz.f26 2 [0,2,3,4,5,43,44] [] (fun _=>[vF,vF]) (fun _=>[]) (jQ (fun ρ=>((gT s.ts 0).kd==1)) false (fun _=>(jK hk rfl))<|jE [[]]) (fun _=>?_)
 refine lK [(0,(pt g)),(2,vz),(3,(vi 0)),(4,(pt (nb ρ2 6))),(5,(.slice s.ka (s.ns.take (gT s.ts 0).ks.length).length s.kc)),(43,(vi (gT s.ts 0).kd)),(44,vF)] [(g,(cL #[.slice (jA s.ta s.tc 1 36) s.ts.tail.length (s.tc-1),.slice (jA s.ka s.kc (gT s.ts 0).ks.length 4) (s.ns.drop (gT s.ts 0).ks.length).length (s.kc-(gT s.ts 0).ks.length)] 64)),(nb ρ2 6,(cL (bW.row (gT s.ts 0)) 46))] ?_
 refine oN ?_
 refine sS Tryz.f26 2 [0,2,3,4,5,50] [] (fun _=>[vF,vF]) (fun _=>[]) (jQ (fun ρ=>((gT s.ts 0).kd==2)) false (fun _=>(jK hk rfl))<|jE [[]]) (fun _=>?_)
 refine oN ?_
 refine aG (aJ (aA ?_))
 refine iZ Tryz.f26 7 [0,2,3,4,6,7] [] (fun ρ=>let qa:Value:=.slice (oa ρ 1) x.length (nb ρ 1);[pt g,.tuple #[qa,vi 0],.tuple #[qa,vi 0],qa,vi 0,qa,vi 0]) (fun _=>[(1,(bD 0 g (cL #[.slice s1.ta s1.ts.length s1.tc,.slice s1.ka s1.ns.length s1.kc] 64)))]) (fun ρ=>[(1,fun w=>Fs w0 w (oa ρ 1) (nb ρ 1) x)]) (fun ρ=>(fun w=>bM w s.ta s.tc s.ts∧Us w s.ka s.kc s.ns∧bM w (jA s.ta s.tc 1 36) (s.tc-1) s.ts.tail∧Us w s.ka s.kc (s.ns.take (gT s.ts 0).ks.length)∧Us w (jA s.ka s.kc (gT s.ts 0).ks.length 4) (s.kc-(gT s.ts 0).ks.length) (s.ns.drop (gT s.ts 0).ks.length)∧Fs w0 w (oa ρ 1) (nb ρ 1) x∧True)) (fun _=>True) (fun _ _ hF hf=>⟨⟨hF.1,hF.2.1,hF.2.2.1,hF.2.2.2.1,hF.2.2.2.2.1,hf 1,trivial⟩,trivial⟩) (cR [[]]<|cX (qWB [0] (fun _ _ w hG hK=>ih w hK (hG.pK [0] (fun _ hF=>⟨hF.2.2.1,hF.2.2.2.2.1,trivial⟩))))<|jE [[],[],[],[],[]]) (fun ρ9 _=>?_)
 refine aB (jJ Tryz.f26 2 [0,2,3,4,6,7,64] [vi 0,vF] ?_)
 refine oN ?_
 refine aG (aA (aB (jM Tryz.f26 2 [0,2,3,4,6,7,67] [] [pt (nb ρ2 6),vi (gT s.ts 0).kd] [[],[1]] (aI ?_))))
 refine sS Tryz.f26 2 [0,2,3,4,6,7,67,68] [] (fun _=>[vF,vF]) (fun _=>[]) (jQ (fun ρ=>((gT s.ts 0).kd==3)) false (fun _=>(jK hk rfl))<|jE [[]]) (fun _=>?_)
 refine oN ?_
 refine sS Tryz.f26 2 [0,2,3,4,6,7,67,74] [] (fun _=>[vT,vT]) (fun _=>[]) (jQ (fun ρ=>((gT s.ts 0).kd==4)) true (fun _=>(jK hk rfl))<|jE [[]]) (fun _=>?_)
 refine oY ?_
 refine iZ Tryz.f26 6 [0,2,3,6,7] [1,0] (fun ρ=>let qa:Value:=.slice (oa ρ 3) (olB (gT s.ts 0).nu x).length (nb ρ 3);[jp (nb ρ2 6) 2,vu ((gT s.ts 0).nu),.slice (oa ρ9 1) x.length (nb ρ9 1),qa,qa,vi 0]) (fun _=>[]) (fun ρ=>[(3,fun w=>Fs w0 w (oa ρ 3) (nb ρ 3) (olB (gT s.ts 0).nu x))]) (fun ρ=>(fun w=>bM w s.ta s.tc s.ts∧Us w s.ka s.kc s.ns∧bM w (jA s.ta s.tc 1 36) (s.tc-1) s.ts.tail∧Us w s.ka s.kc (s.ns.take (gT s.ts 0).ks.length)∧Us w (jA s.ka s.kc (gT s.ts 0).ks.length 4) (s.kc-(gT s.ts 0).ks.length) (s.ns.drop (gT s.ts 0).ks.length)∧Fs w0 w (oa ρ9 1) (nb ρ9 1) x∧Fs w0 w (oa ρ 3) (nb ρ 3) (olB (gT s.ts 0).nu x)∧True)) (fun _=>True) (fun _ _ hF hf=>⟨⟨hF.1,hF.2.1,hF.2.2.1,hF.2.2.2.1,hF.2.2.2.2.1,hF.2.2.2.2.2.1,hf 3,trivial⟩,trivial⟩) (cR [[],[1],[]]<|cX (qB (fun _ _ w hG=>older_any (gT s.ts 0).nu (oa ρ9 1) (nb ρ9 1) x (ho.gT 0).nu hx w hG.fn.2.2.2.2.2.1.1))<|jE [[],[]]) (fun ρ14 _=>?_)
 refine aF (aP (aC (mD [(0,(pt g)),(2,(.slice (oa ρ14 3) (olB (gT s.ts 0).nu x).length (nb ρ14 3))),(3,(vi 0)),(6,(.slice (oa ρ9 1) x.length (nb ρ9 1))),(7,(vi 0))] [(g,(cL #[.slice s1.ta s1.ts.length s1.tc,.slice s1.ka s1.ns.length s1.kc] 64))] ?_)))
 exact mR (v:=(.tuple #[.slice (oa ρ14 3) (olB (gT s.ts 0).nu x).length (nb ρ14 3),vi 0])) (fun _ hS=>⟨oa ρ14 3,nb ρ14 3,rfl,hS.below,hS.knows [1],dU (rfl) hS.facts.now.2.2.2.2.2.2.1⟩)
theorem next5_any (g:Nat) (s:Mk) (x:List UInt8) (s1:Mk) (hk:s.fst.kd=5) (hc:s.can=true) (ho:mP s.ts) (_hU:∀ n∈s.ns,n<M) (hx:x.length≤1000000) (w0:World) (hK:Knows [(g,(cL #[.slice s.ta s.ts.length s.tc,.slice s.ka s.ns.length s.kc] 64))] w0) (hP:dL (fun b=>b∈([(g,(cL #[.slice s.ta s.ts.length s.tc,.slice s.ka s.ns.length s.kc] 64))]:List (Nat × Obj)).map (·.1)) (fun w=>bM w s.ta s.tc s.ts∧Us w s.ka s.kc s.ns∧True) w0) (ih:NextC g s.go x s1):Calls Tryz.prog 26 #[pt g] w0 (fun ε w'=>∃ α κ,ε=.returned (.tuple #[.slice α (hsB s.fst.h x).length κ,.int .i64 0])∧nN (fun b=>b∈([(g,(cL #[.slice s.ta s.ts.length s.tc,.slice s.ka s.ns.length s.kc] 64))]:List (Nat × Obj)).map (·.1)) w0 w'∧Knows [(g,(cL #[.slice s1.ta s1.ts.length s1.tc,.slice s1.ka s1.ns.length s1.kc] 64))] w'∧Fs w0 w' α κ (hsB s.fst.h x)):=by
 refine Calls.of_okW (n:=97) (F:=(fun w=>bM w s.ta s.tc s.ts∧Us w s.ka s.kc s.ns∧True)) [(g,(cL #[.slice s.ta s.ts.length s.tc,.slice s.ka s.ns.length s.kc] 64))] Tryz.func26 rfl rfl rfl (by simp) hK (by simp) hP ?_
 refine jJ Tryz.f26 2 [0,2,3] [vz,vi 0] ?_
 refine sS Tryz.f26 8 [0,2,3,4] [] (fun ρ=>[pt g,pt g,pt g,.slice s.ta s.ts.length s.tc,.pointer (fK s.ta (0*36)),.agg (bW.row (gT s.ts 0)),pt (nb ρ 6),undef]) (fun ρ=>[(6,(nw ρ 6 (cL (iC 0 0 0 0 vz) 46))),(7,(bD 49 (nb ρ 6) (cL (bW.row (gT s.ts 0)) 46)))]) (cR [[],[],[],[0]]<|cX (qF (fun _ _ _ hG=>bM.idx (k:=.i64) Tryz.underlying24 Tryz.sizeOf46 hG.fn.1 rfl (show (0:Int)=((0:Nat):Int) from rfl) (show 0<s.ts.length from eX hc)))<|cX (qF (fun _ _ _ hG=>bM.ldA (i:=0) Tryz.isAgg46 Tryz.sizeOf46 hG.fn.1 (show 0<s.ts.length from eX hc)))<|jE [[],[49]]) (fun ρ2=>?_)
 refine iZ Tryz.f26 9 [0,2,3,4] [] (fun _=>[pt g,pt g,pt g,pt g,.slice s.ta s.ts.length s.tc,.slice (jA s.ta s.tc 1 36) s.ts.tail.length (s.tc-1),pt g,pt g,undef]) (fun _=>[(8,(bD 0 g (cL #[.slice (jA s.ta s.tc 1 36) s.ts.tail.length (s.tc-1),.slice s.ka s.ns.length s.kc] 64)))]) (fun _=>[(5,fun w=>bM w (jA s.ta s.tc 1 36) (s.tc-1) s.ts.tail)]) (fun _=>(fun w=>bM w s.ta s.tc s.ts∧Us w s.ka s.kc s.ns∧bM w (jA s.ta s.tc 1 36) (s.tc-1) s.ts.tail∧True)) (fun _=>True) (fun _ _ hF hf=>⟨⟨hF.1,hF.2.1,hf 5,trivial⟩,trivial⟩) (cR [[],[],[],[],[0]]<|cX (jF (fun _=>Instr.sliceAt 24 (.slice s.ta s.ts.length s.tc) (some (vi 1)) none none) (fun _=>(.slice (jA s.ta s.tc 1 36) s.ts.tail.length (s.tc-1))) (fun _ _ _ hG=>fP (k:=1) Tryz.underlying24 Tryz.sizeOf46 rfl (jI (rfl)) (eX hc) hG.fn.1.le (by rw [List.length_tail])) (fun _ _ w hG=>hG.facts0.mono (fun _ hF=>hF.1.tail (eX hc))))<|jE [[],[],[0]]) (fun _ _=>?_)
 refine sDf Tryz.f26 [0,1,3,7,0,16,48,127,255] 9 [0,2,3,4,5] [] (fun _=>let qa:Value:=.slice s.ka (s.ns.take (gT s.ts 0).ks.length).length s.kc;[pt g,pt g,jp g 1,.slice s.ka s.ns.length s.kc,jp (nb ρ2 6) 35,.slice (gT s.ts 0).ka (gT s.ts 0).ks.length (gT s.ts 0).kc,vn (gT s.ts 0).ks.length,qa,qa]) (fun _=>[]) (fun _=>[(7,fun w=>Us w s.ka s.kc (s.ns.take (gT s.ts 0).ks.length))]) (fun _=>(fun w=>bM w s.ta s.tc s.ts∧Us w s.ka s.kc s.ns∧bM w (jA s.ta s.tc 1 36) (s.tc-1) s.ts.tail∧Us w s.ka s.kc (s.ns.take (gT s.ts 0).ks.length)∧True)) (fun _=>True) (fun _ _ hF hf=>⟨⟨hF.1,hF.2.1,hF.2.2.1,hf 7,trivial⟩,trivial⟩) (cR [[],[],[],[0],[],[1],[]]<|cX (jF (fun _=>Instr.sliceAt 29 (.slice s.ka s.ns.length s.kc) none (some (vn (gT s.ts 0).ks.length)) none) (fun _=>(.slice s.ka (s.ns.take (gT s.ts 0).ks.length).length s.kc)) (fun _ _ _ hG=>pY (k:=(gT s.ts 0).ks.length) Tryz.underlying29 Tryz.sizeOf39 rfl (jI (rfl)) (fE hc) hG.fn.2.1.le (by rw [List.length_take];exact (Nat.min_eq_left (fE hc)).symm)) (fun _ _ w hG=>hG.facts0.mono (fun _ hF=>hF.2.1.take (gT s.ts 0).ks.length)))<|jE [[]]) (fun _ _=>?_)
 refine sDf Tryz.f26 [0,0,2,6,14,0,32,96,254,511,1023,2047] 12 [0,2,3,4,5] [] (fun _=>[pt g,pt g,pt g,jp g 1,.slice s.ka s.ns.length s.kc,jp (nb ρ2 6) 35,.slice (gT s.ts 0).ka (gT s.ts 0).ks.length (gT s.ts 0).kc,vn (gT s.ts 0).ks.length,.slice (jA s.ka s.kc (gT s.ts 0).ks.length 4) (s.ns.drop (gT s.ts 0).ks.length).length (s.kc-(gT s.ts 0).ks.length),pt g,jp g 1,undef]) (fun _=>[(11,(bD 0 g (cL #[.slice (jA s.ta s.tc 1 36) s.ts.tail.length (s.tc-1),.slice (jA s.ka s.kc (gT s.ts 0).ks.length 4) (s.ns.drop (gT s.ts 0).ks.length).length (s.kc-(gT s.ts 0).ks.length)] 64)))]) (fun _=>[(8,fun w=>Us w (jA s.ka s.kc (gT s.ts 0).ks.length 4) (s.kc-(gT s.ts 0).ks.length) (s.ns.drop (gT s.ts 0).ks.length))]) (fun _=>(fun w=>bM w s.ta s.tc s.ts∧Us w s.ka s.kc s.ns∧bM w (jA s.ta s.tc 1 36) (s.tc-1) s.ts.tail∧Us w s.ka s.kc (s.ns.take (gT s.ts 0).ks.length)∧Us w (jA s.ka s.kc (gT s.ts 0).ks.length 4) (s.kc-(gT s.ts 0).ks.length) (s.ns.drop (gT s.ts 0).ks.length)∧True)) (fun _=>True) (fun _ _ hF hf=>⟨⟨hF.1,hF.2.1,hF.2.2.1,hF.2.2.2.1,hf 8,trivial⟩,trivial⟩) (cR [[],[],[],[],[0],[],[1],[]]<|cX (jF (fun _=>Instr.sliceAt 29 (.slice s.ka s.ns.length s.kc) (some (vn (gT s.ts 0).ks.length)) none none) (fun _=>(.slice (jA s.ka s.kc (gT s.ts 0).ks.length 4) (s.ns.drop (gT s.ts 0).ks.length).length (s.kc-(gT s.ts 0).ks.length))) (fun _ _ _ hG=>fP (k:=(gT s.ts 0).ks.length) Tryz.underlying29 Tryz.sizeOf39 rfl (jI (rfl)) (fE hc) hG.fn.2.1.le (by rw [List.length_drop])) (fun _ _ w hG=>hG.facts0.mono (fun _ hF=>hF.2.1.drop (fE hc))))<|jE [[],[],[0]]) (fun _ _=>?_)
 refine aB (jM Tryz.f26 2 [0,2,3,4,5,43] [] [pt (nb ρ2 6),vi (gT s.ts 0).kd] [[],[1]] (aI ?_))
 refine sS Tryz.f26 2 [0,2,3,4,5,43,44] [] (fun _=>[vF,vF]) (fun _=>[]) (jQ (fun ρ=>((gT s.ts 0).kd==1)) false (fun _=>(jK hk rfl))<|jE [[]]) (fun _=>?_)
 refine lK [(0,(pt g)),(2,vz),(3,(vi 0)),(4,(pt (nb ρ2 6))),(5,(.slice s.ka (s.ns.take (gT s.ts 0).ks.length).length s.kc)),(43,(vi (gT s.ts 0).kd)),(44,vF)] [(g,(cL #[.slice (jA s.ta s.tc 1 36) s.ts.tail.length (s.tc-1),.slice (jA s.ka s.kc (gT s.ts 0).ks.length 4) (s.ns.drop (gT s.ts 0).ks.length).length (s.kc-(gT s.ts 0).ks.length)] 64)),(nb ρ2 6,(cL (bW.row (gT s.ts 0)) 46))] ?_
 refine oN ?_
 refine sS Tryz.f26 2 [0,2,3,4,5,50] [] (fun _=>[vF,vF]) (fun _=>[]) (jQ (fun ρ=>((gT s.ts 0).kd==2)) false (fun _=>(jK hk rfl))<|jE [[]]) (fun _=>?_)
 refine oN ?_
 refine aG (aJ (aA ?_))
 refine iZ Tryz.f26 7 [0,2,3,4,6,7] [] (fun ρ=>let qa:Value:=.slice (oa ρ 1) x.length (nb ρ 1);[pt g,.tuple #[qa,vi 0],.tuple #[qa,vi 0],qa,vi 0,qa,vi 0]) (fun _=>[(1,(bD 0 g (cL #[.slice s1.ta s1.ts.length s1.tc,.slice s1.ka s1.ns.length s1.kc] 64)))]) (fun ρ=>[(1,fun w=>Fs w0 w (oa ρ 1) (nb ρ 1) x)]) (fun ρ=>(fun w=>bM w s.ta s.tc s.ts∧Us w s.ka s.kc s.ns∧bM w (jA s.ta s.tc 1 36) (s.tc-1) s.ts.tail∧Us w s.ka s.kc (s.ns.take (gT s.ts 0).ks.length)∧Us w (jA s.ka s.kc (gT s.ts 0).ks.length 4) (s.kc-(gT s.ts 0).ks.length) (s.ns.drop (gT s.ts 0).ks.length)∧Fs w0 w (oa ρ 1) (nb ρ 1) x∧True)) (fun _=>True) (fun _ _ hF hf=>⟨⟨hF.1,hF.2.1,hF.2.2.1,hF.2.2.2.1,hF.2.2.2.2.1,hf 1,trivial⟩,trivial⟩) (cR [[]]<|cX (qWB [0] (fun _ _ w hG hK=>ih w hK (hG.pK [0] (fun _ hF=>⟨hF.2.2.1,hF.2.2.2.2.1,trivial⟩))))<|jE [[],[],[],[],[]]) (fun ρ9 _=>?_)
 refine aB (jJ Tryz.f26 2 [0,2,3,4,6,7,64] [vi 0,vF] ?_)
 refine oN ?_
 refine aG (aA (aB (jM Tryz.f26 2 [0,2,3,4,6,7,67] [] [pt (nb ρ2 6),vi (gT s.ts 0).kd] [[],[1]] (aI ?_))))
 refine sS Tryz.f26 2 [0,2,3,4,6,7,67,68] [] (fun _=>[vF,vF]) (fun _=>[]) (jQ (fun ρ=>((gT s.ts 0).kd==3)) false (fun _=>(jK hk rfl))<|jE [[]]) (fun _=>?_)
 refine oN ?_
 refine sS Tryz.f26 2 [0,2,3,4,6,7,67,74] [] (fun _=>[vF,vF]) (fun _=>[]) (jQ (fun ρ=>((gT s.ts 0).kd==4)) false (fun _=>(jK hk rfl))<|jE [[]]) (fun _=>?_)
 refine oN ?_
 refine sS Tryz.f26 2 [0,2,3,4,6,7,80] [] (fun _=>[vT,vT]) (fun _=>[]) (jQ (fun ρ=>((gT s.ts 0).kd==5)) true (fun _=>(jK hk rfl))<|jE [[]]) (fun _=>?_)
 refine lK [(0,(pt g)),(2,vz),(3,(vi 0)),(4,(pt (nb ρ2 6))),(6,(.slice (oa ρ9 1) x.length (nb ρ9 1))),(7,(vi 0)),(80,vT)] [(g,(cL #[.slice s1.ta s1.ts.length s1.tc,.slice s1.ka s1.ns.length s1.kc] 64)),(nb ρ2 6,(cL (bW.row (gT s.ts 0)) 46))] ?_
 refine oY ?_
 refine iZ Tryz.f26 6 [0,2,3,6,7] [1,0] (fun ρ=>let qa:Value:=.slice (oa ρ 3) (hsB (gT s.ts 0).h x).length (nb ρ 3);[jp (nb ρ2 6) 3,.agg (hB (gT s.ts 0).h),.slice (oa ρ9 1) x.length (nb ρ9 1),qa,qa,vi 0]) (fun _=>[]) (fun ρ=>[(3,fun w=>Fs w0 w (oa ρ 3) (nb ρ 3) (hsB (gT s.ts 0).h x))]) (fun ρ=>(fun w=>bM w s.ta s.tc s.ts∧Us w s.ka s.kc s.ns∧bM w (jA s.ta s.tc 1 36) (s.tc-1) s.ts.tail∧Us w s.ka s.kc (s.ns.take (gT s.ts 0).ks.length)∧Us w (jA s.ka s.kc (gT s.ts 0).ks.length 4) (s.kc-(gT s.ts 0).ks.length) (s.ns.drop (gT s.ts 0).ks.length)∧Fs w0 w (oa ρ9 1) (nb ρ9 1) x∧Fs w0 w (oa ρ 3) (nb ρ 3) (hsB (gT s.ts 0).h x)∧True)) (fun _=>True) (fun _ _ hF hf=>⟨⟨hF.1,hF.2.1,hF.2.2.1,hF.2.2.2.1,hF.2.2.2.2.1,hF.2.2.2.2.2.1,hf 3,trivial⟩,trivial⟩) (cR [[],[1],[]]<|cX (qB (fun _ _ w hG=>hashed_any (gT s.ts 0).h (oa ρ9 1) (nb ρ9 1) x (ho.gT 0).h hx w hG.fn.2.2.2.2.2.1.1))<|jE [[],[]]) (fun ρ15 _=>?_)
 refine aF (aP (aC (mD [(0,(pt g)),(2,(.slice (oa ρ15 3) (hsB (gT s.ts 0).h x).length (nb ρ15 3))),(3,(vi 0)),(6,(.slice (oa ρ9 1) x.length (nb ρ9 1))),(7,(vi 0))] [(g,(cL #[.slice s1.ta s1.ts.length s1.tc,.slice s1.ka s1.ns.length s1.kc] 64))] ?_)))
 exact mR (v:=(.tuple #[.slice (oa ρ15 3) (hsB (gT s.ts 0).h x).length (nb ρ15 3),vi 0])) (fun _ hS=>⟨oa ρ15 3,nb ρ15 3,rfl,hS.below,hS.knows [1],dU (rfl) hS.facts.now.2.2.2.2.2.2.1⟩)
theorem next6_any (g:Nat) (s:Mk) (x:List UInt8) (s1:Mk) (y:List UInt8) (s2:Mk) (hk:s.fst.kd=6) (hc:s.can=true) (_ho:mP s.ts) (_hU:∀ n∈s.ns,n<M) (hx:x.length≤1000000) (hy:y.length≤1000000) (w0:World) (hK:Knows [(g,(cL #[.slice s.ta s.ts.length s.tc,.slice s.ka s.ns.length s.kc] 64))] w0) (hP:dL (fun b=>b∈([(g,(cL #[.slice s.ta s.ts.length s.tc,.slice s.ka s.ns.length s.kc] 64))]:List (Nat × Obj)).map (·.1)) (fun w=>bM w s.ta s.tc s.ts∧Us w s.ka s.kc s.ns∧bM w s1.ta s1.tc s1.ts∧Us w s1.ka s1.kc s1.ns∧True) w0) (ih:NextC g s.go x s1) (ih2:NextC g s1 y s2):Calls Tryz.prog 26 #[pt g] w0 (fun ε w'=>∃ α κ,ε=.returned (.tuple #[.slice α (eiB x y).length κ,.int .i64 0])∧nN (fun b=>b∈([(g,(cL #[.slice s.ta s.ts.length s.tc,.slice s.ka s.ns.length s.kc] 64))]:List (Nat × Obj)).map (·.1)) w0 w'∧Knows [(g,(cL #[.slice s2.ta s2.ts.length s2.tc,.slice s2.ka s2.ns.length s2.kc] 64))] w'∧Fs w0 w' α κ (eiB x y)):=by
 refine Calls.of_okW (n:=97) (F:=(fun w=>bM w s.ta s.tc s.ts∧Us w s.ka s.kc s.ns∧bM w s1.ta s1.tc s1.ts∧Us w s1.ka s1.kc s1.ns∧True)) [(g,(cL #[.slice s.ta s.ts.length s.tc,.slice s.ka s.ns.length s.kc] 64))] Tryz.func26 rfl rfl rfl (by simp) hK (by simp) hP ?_
 refine jJ Tryz.f26 2 [0,2,3] [vz,vi 0] ?_
 refine sS Tryz.f26 8 [0,2,3,4] [] (fun ρ=>[pt g,pt g,pt g,.slice s.ta s.ts.length s.tc,.pointer (fK s.ta (0*36)),.agg (bW.row (gT s.ts 0)),pt (nb ρ 6),undef]) (fun ρ=>[(6,(nw ρ 6 (cL (iC 0 0 0 0 vz) 46))),(7,(bD 49 (nb ρ 6) (cL (bW.row (gT s.ts 0)) 46)))]) (cR [[],[],[],[0]]<|cX (qF (fun _ _ _ hG=>bM.idx (k:=.i64) Tryz.underlying24 Tryz.sizeOf46 hG.fn.1 rfl (show (0:Int)=((0:Nat):Int) from rfl) (show 0<s.ts.length from eX hc)))<|cX (qF (fun _ _ _ hG=>bM.ldA (i:=0) Tryz.isAgg46 Tryz.sizeOf46 hG.fn.1 (show 0<s.ts.length from eX hc)))<|jE [[],[49]]) (fun ρ2=>?_)
 refine iZ Tryz.f26 9 [0,2,3,4] [] (fun _=>[pt g,pt g,pt g,pt g,.slice s.ta s.ts.length s.tc,.slice (jA s.ta s.tc 1 36) s.ts.tail.length (s.tc-1),pt g,pt g,undef]) (fun _=>[(8,(bD 0 g (cL #[.slice (jA s.ta s.tc 1 36) s.ts.tail.length (s.tc-1),.slice s.ka s.ns.length s.kc] 64)))]) (fun _=>[(5,fun w=>bM w (jA s.ta s.tc 1 36) (s.tc-1) s.ts.tail)]) (fun _=>(fun w=>bM w s.ta s.tc s.ts∧Us w s.ka s.kc s.ns∧bM w s1.ta s1.tc s1.ts∧Us w s1.ka s1.kc s1.ns∧bM w (jA s.ta s.tc 1 36) (s.tc-1) s.ts.tail∧True)) (fun _=>True) (fun _ _ hF hf=>⟨⟨hF.1,hF.2.1,hF.2.2.1,hF.2.2.2.1,hf 5,trivial⟩,trivial⟩) (cR [[],[],[],[],[0]]<|cX (jF (fun _=>Instr.sliceAt 24 (.slice s.ta s.ts.length s.tc) (some (vi 1)) none none) (fun _=>(.slice (jA s.ta s.tc 1 36) s.ts.tail.length (s.tc-1))) (fun _ _ _ hG=>fP (k:=1) Tryz.underlying24 Tryz.sizeOf46 rfl (jI (rfl)) (eX hc) hG.fn.1.le (by rw [List.length_tail])) (fun _ _ w hG=>hG.facts0.mono (fun _ hF=>hF.1.tail (eX hc))))<|jE [[],[],[0]]) (fun _ _=>?_)
 refine sDf Tryz.f26 [0,1,3,7,0,16,48,127,255] 9 [0,2,3,4,5] [] (fun _=>let qa:Value:=.slice s.ka (s.ns.take (gT s.ts 0).ks.length).length s.kc;[pt g,pt g,jp g 1,.slice s.ka s.ns.length s.kc,jp (nb ρ2 6) 35,.slice (gT s.ts 0).ka (gT s.ts 0).ks.length (gT s.ts 0).kc,vn (gT s.ts 0).ks.length,qa,qa]) (fun _=>[]) (fun _=>[(7,fun w=>Us w s.ka s.kc (s.ns.take (gT s.ts 0).ks.length))]) (fun _=>(fun w=>bM w s.ta s.tc s.ts∧Us w s.ka s.kc s.ns∧bM w s1.ta s1.tc s1.ts∧Us w s1.ka s1.kc s1.ns∧bM w (jA s.ta s.tc 1 36) (s.tc-1) s.ts.tail∧Us w s.ka s.kc (s.ns.take (gT s.ts 0).ks.length)∧True)) (fun _=>True) (fun _ _ hF hf=>⟨⟨hF.1,hF.2.1,hF.2.2.1,hF.2.2.2.1,hF.2.2.2.2.1,hf 7,trivial⟩,trivial⟩) (cR [[],[],[],[0],[],[1],[]]<|cX (jF (fun _=>Instr.sliceAt 29 (.slice s.ka s.ns.length s.kc) none (some (vn (gT s.ts 0).ks.length)) none) (fun _=>(.slice s.ka (s.ns.take (gT s.ts 0).ks.length).length s.kc)) (fun _ _ _ hG=>pY (k:=(gT s.ts 0).ks.length) Tryz.underlying29 Tryz.sizeOf39 rfl (jI (rfl)) (fE hc) hG.fn.2.1.le (by rw [List.length_take];exact (Nat.min_eq_left (fE hc)).symm)) (fun _ _ w hG=>hG.facts0.mono (fun _ hF=>hF.2.1.take (gT s.ts 0).ks.length)))<|jE [[]]) (fun _ _=>?_)
 refine sDf Tryz.f26 [0,0,2,6,14,0,32,96,254,511,1023,2047] 12 [0,2,3,4,5] [] (fun _=>[pt g,pt g,pt g,jp g 1,.slice s.ka s.ns.length s.kc,jp (nb ρ2 6) 35,.slice (gT s.ts 0).ka (gT s.ts 0).ks.length (gT s.ts 0).kc,vn (gT s.ts 0).ks.length,.slice (jA s.ka s.kc (gT s.ts 0).ks.length 4) (s.ns.drop (gT s.ts 0).ks.length).length (s.kc-(gT s.ts 0).ks.length),pt g,jp g 1,undef]) (fun _=>[(11,(bD 0 g (cL #[.slice (jA s.ta s.tc 1 36) s.ts.tail.length (s.tc-1),.slice (jA s.ka s.kc (gT s.ts 0).ks.length 4) (s.ns.drop (gT s.ts 0).ks.length).length (s.kc-(gT s.ts 0).ks.length)] 64)))]) (fun _=>[(8,fun w=>Us w (jA s.ka s.kc (gT s.ts 0).ks.length 4) (s.kc-(gT s.ts 0).ks.length) (s.ns.drop (gT s.ts 0).ks.length))]) (fun _=>(fun w=>bM w s.ta s.tc s.ts∧Us w s.ka s.kc s.ns∧bM w s1.ta s1.tc s1.ts∧Us w s1.ka s1.kc s1.ns∧bM w (jA s.ta s.tc 1 36) (s.tc-1) s.ts.tail∧Us w s.ka s.kc (s.ns.take (gT s.ts 0).ks.length)∧Us w (jA s.ka s.kc (gT s.ts 0).ks.length 4) (s.kc-(gT s.ts 0).ks.length) (s.ns.drop (gT s.ts 0).ks.length)∧True)) (fun _=>True) (fun _ _ hF hf=>⟨⟨hF.1,hF.2.1,hF.2.2.1,hF.2.2.2.1,hF.2.2.2.2.1,hF.2.2.2.2.2.1,hf 8,trivial⟩,trivial⟩) (cR [[],[],[],[],[0],[],[1],[]]<|cX (jF (fun _=>Instr.sliceAt 29 (.slice s.ka s.ns.length s.kc) (some (vn (gT s.ts 0).ks.length)) none none) (fun _=>(.slice (jA s.ka s.kc (gT s.ts 0).ks.length 4) (s.ns.drop (gT s.ts 0).ks.length).length (s.kc-(gT s.ts 0).ks.length))) (fun _ _ _ hG=>fP (k:=(gT s.ts 0).ks.length) Tryz.underlying29 Tryz.sizeOf39 rfl (jI (rfl)) (fE hc) hG.fn.2.1.le (by rw [List.length_drop])) (fun _ _ w hG=>hG.facts0.mono (fun _ hF=>hF.2.1.drop (fE hc))))<|jE [[],[],[0]]) (fun _ _=>?_)
 refine aB (jM Tryz.f26 2 [0,2,3,4,5,43] [] [pt (nb ρ2 6),vi (gT s.ts 0).kd] [[],[1]] (aI ?_))
 refine sS Tryz.f26 2 [0,2,3,4,5,43,44] [] (fun _=>[vF,vF]) (fun _=>[]) (jQ (fun ρ=>((gT s.ts 0).kd==1)) false (fun _=>(jK hk rfl))<|jE [[]]) (fun _=>?_)
 refine lK [(0,(pt g)),(2,vz),(3,(vi 0)),(4,(pt (nb ρ2 6))),(5,(.slice s.ka (s.ns.take (gT s.ts 0).ks.length).length s.kc)),(43,(vi (gT s.ts 0).kd)),(44,vF)] [(g,(cL #[.slice (jA s.ta s.tc 1 36) s.ts.tail.length (s.tc-1),.slice (jA s.ka s.kc (gT s.ts 0).ks.length 4) (s.ns.drop (gT s.ts 0).ks.length).length (s.kc-(gT s.ts 0).ks.length)] 64)),(nb ρ2 6,(cL (bW.row (gT s.ts 0)) 46))] ?_
 refine oN ?_
 refine sS Tryz.f26 2 [0,2,3,4,5,50] [] (fun _=>[vF,vF]) (fun _=>[]) (jQ (fun ρ=>((gT s.ts 0).kd==2)) false (fun _=>(jK hk rfl))<|jE [[]]) (fun _=>?_)
 refine oN ?_
 refine aG (aJ (aA ?_))
 refine iZ Tryz.f26 7 [0,2,3,4,6,7] [] (fun ρ=>let qa:Value:=.slice (oa ρ 1) x.length (nb ρ 1);[pt g,.tuple #[qa,vi 0],.tuple #[qa,vi 0],qa,vi 0,qa,vi 0]) (fun _=>[(1,(bD 0 g (cL #[.slice s1.ta s1.ts.length s1.tc,.slice s1.ka s1.ns.length s1.kc] 64)))]) (fun ρ=>[(1,fun w=>Fs w0 w (oa ρ 1) (nb ρ 1) x)]) (fun ρ=>(fun w=>bM w s.ta s.tc s.ts∧Us w s.ka s.kc s.ns∧bM w s1.ta s1.tc s1.ts∧Us w s1.ka s1.kc s1.ns∧bM w (jA s.ta s.tc 1 36) (s.tc-1) s.ts.tail∧Us w s.ka s.kc (s.ns.take (gT s.ts 0).ks.length)∧Us w (jA s.ka s.kc (gT s.ts 0).ks.length 4) (s.kc-(gT s.ts 0).ks.length) (s.ns.drop (gT s.ts 0).ks.length)∧Fs w0 w (oa ρ 1) (nb ρ 1) x∧True)) (fun _=>True) (fun _ _ hF hf=>⟨⟨hF.1,hF.2.1,hF.2.2.1,hF.2.2.2.1,hF.2.2.2.2.1,hF.2.2.2.2.2.1,hF.2.2.2.2.2.2.1,hf 1,trivial⟩,trivial⟩) (cR [[]]<|cX (qWB [0] (fun _ _ w hG hK=>ih w hK (hG.pK [0] (fun _ hF=>⟨hF.2.2.2.2.1,hF.2.2.2.2.2.2.1,trivial⟩))))<|jE [[],[],[],[],[]]) (fun ρ9 _=>?_)
 refine aB (jJ Tryz.f26 2 [0,2,3,4,6,7,64] [vi 0,vF] ?_)
 refine oN ?_
 refine aG (aA (aB (jM Tryz.f26 2 [0,2,3,4,6,7,67] [] [pt (nb ρ2 6),vi (gT s.ts 0).kd] [[],[1]] (aI ?_))))
 refine sS Tryz.f26 2 [0,2,3,4,6,7,67,68] [] (fun _=>[vF,vF]) (fun _=>[]) (jQ (fun ρ=>((gT s.ts 0).kd==3)) false (fun _=>(jK hk rfl))<|jE [[]]) (fun _=>?_)
 refine oN ?_
 refine sS Tryz.f26 2 [0,2,3,4,6,7,67,74] [] (fun _=>[vF,vF]) (fun _=>[]) (jQ (fun ρ=>((gT s.ts 0).kd==4)) false (fun _=>(jK hk rfl))<|jE [[]]) (fun _=>?_)
 refine oN ?_
 refine sS Tryz.f26 2 [0,2,3,4,6,7,80] [] (fun _=>[vF,vF]) (fun _=>[]) (jQ (fun ρ=>((gT s.ts 0).kd==5)) false (fun _=>(jK hk rfl))<|jE [[]]) (fun _=>?_)
 refine lK [(0,(pt g)),(2,vz),(3,(vi 0)),(4,(pt (nb ρ2 6))),(6,(.slice (oa ρ9 1) x.length (nb ρ9 1))),(7,(vi 0)),(80,vF)] [(g,(cL #[.slice s1.ta s1.ts.length s1.tc,.slice s1.ka s1.ns.length s1.kc] 64)),(nb ρ2 6,(cL (bW.row (gT s.ts 0)) 46))] ?_
 refine oN ?_
 refine aG (aJ (aA ?_))
 refine iZ Tryz.f26 7 [2,3,6,7,8] [1,0] (fun ρ=>let qa:Value:=.slice (oa ρ 1) y.length (nb ρ 1);[pt g,.tuple #[qa,vi 0],.tuple #[qa,vi 0],qa,vi 0,qa,vi 0]) (fun _=>[(1,(bD 0 g (cL #[.slice s2.ta s2.ts.length s2.tc,.slice s2.ka s2.ns.length s2.kc] 64)))]) (fun ρ=>[(1,fun w=>Fs w0 w (oa ρ 1) (nb ρ 1) y)]) (fun ρ=>(fun w=>bM w s.ta s.tc s.ts∧Us w s.ka s.kc s.ns∧bM w s1.ta s1.tc s1.ts∧Us w s1.ka s1.kc s1.ns∧bM w (jA s.ta s.tc 1 36) (s.tc-1) s.ts.tail∧Us w s.ka s.kc (s.ns.take (gT s.ts 0).ks.length)∧Us w (jA s.ka s.kc (gT s.ts 0).ks.length 4) (s.kc-(gT s.ts 0).ks.length) (s.ns.drop (gT s.ts 0).ks.length)∧Fs w0 w (oa ρ9 1) (nb ρ9 1) x∧Fs w0 w (oa ρ 1) (nb ρ 1) y∧True)) (fun _=>True) (fun _ _ hF hf=>⟨⟨hF.1,hF.2.1,hF.2.2.1,hF.2.2.2.1,hF.2.2.2.2.1,hF.2.2.2.2.2.1,hF.2.2.2.2.2.2.1,hF.2.2.2.2.2.2.2.1,hf 1,trivial⟩,trivial⟩) (cR [[]]<|cX (qWB [0] (fun _ _ w hG hK=>ih2 w hK (hG.pK [0] (fun _ hF=>⟨hF.2.2.1,hF.2.2.2.1,trivial⟩))))<|jE [[],[],[],[],[]]) (fun ρ15 _=>?_)
 refine aB (jJ Tryz.f26 2 [2,3,6,7,8,92] [vi 0,vF] ?_)
 refine oN ?_
 refine aG (aA ?_)
 refine iZ Tryz.f26 5 [2,3] [] (fun ρ=>let qa:Value:=.slice (oa ρ 2) (eiB x y).length (nb ρ 2);[.slice (oa ρ9 1) x.length (nb ρ9 1),.slice (oa ρ15 1) y.length (nb ρ15 1),qa,qa,vi 0]) (fun _=>[]) (fun ρ=>[(2,fun w=>Fs w0 w (oa ρ 2) (nb ρ 2) (eiB x y))]) (fun ρ=>(fun w=>bM w s.ta s.tc s.ts∧Us w s.ka s.kc s.ns∧bM w s1.ta s1.tc s1.ts∧Us w s1.ka s1.kc s1.ns∧bM w (jA s.ta s.tc 1 36) (s.tc-1) s.ts.tail∧Us w s.ka s.kc (s.ns.take (gT s.ts 0).ks.length)∧Us w (jA s.ka s.kc (gT s.ts 0).ks.length 4) (s.kc-(gT s.ts 0).ks.length) (s.ns.drop (gT s.ts 0).ks.length)∧Fs w0 w (oa ρ9 1) (nb ρ9 1) x∧Fs w0 w (oa ρ15 1) (nb ρ15 1) y∧Fs w0 w (oa ρ 2) (nb ρ 2) (eiB x y)∧True)) (fun _=>True) (fun _ _ hF hf=>⟨⟨hF.1,hF.2.1,hF.2.2.1,hF.2.2.2.1,hF.2.2.2.2.1,hF.2.2.2.2.2.1,hF.2.2.2.2.2.2.1,hF.2.2.2.2.2.2.2.1,hF.2.2.2.2.2.2.2.2.1,hf 2,trivial⟩,trivial⟩) (cR [[],[]]<|cX (qB (fun _ _ w hG=>either_any (oa ρ9 1) (nb ρ9 1) x (oa ρ15 1) (nb ρ15 1) y hx hy w hG.fn.2.2.2.2.2.2.2.1.1 hG.fn.2.2.2.2.2.2.2.2.1.1))<|jE [[],[]]) (fun ρ17 _=>?_)
 refine aF (mD [(2,(.slice (oa ρ17 2) (eiB x y).length (nb ρ17 2))),(3,(vi 0))] [(g,(cL #[.slice s2.ta s2.ts.length s2.tc,.slice s2.ka s2.ns.length s2.kc] 64))] ?_)
 exact mR (v:=(.tuple #[.slice (oa ρ17 2) (eiB x y).length (nb ρ17 2),vi 0])) (fun _ hS=>⟨oa ρ17 2,nb ρ17 2,rfl,hS.below,hS.knows [1],dU (rfl) hS.facts.now.2.2.2.2.2.2.2.2.2.1⟩)
theorem next_all (g:Nat):∀ (f:Nat) (s:Mk) (b:List UInt8) (s':Mk),f≤8→nx f s=some (b,s')→(∀ t∈s.ts,t.kd=2→t.ks.length=2)→NextC g s b s'
  | 0,_,_,_,_,h,_=>by simp [nx] at h
  | f + 1, s, b, s', hf, h, h2 => by
    intro w0 hK hP
    have ho:=hP.now.1.oks
    have hU:=hP.now.2.1.ok
    have hp:2^f≤2^7:=Nat.pow_le_pow_right (by decide) (by omega)
    have big:∀ {x:List UInt8} {s s1:Mk},nx f s=some (x,s1)→x.length≤1000000:=fun h=>by have:=nx_len f _ _ _ h;omega
    unfold nx at h
    split at h
    · exact absurd h (by simp)
    rename_i hc
    have hc:s.can=true:=by simpa using hc
    have hg:=Left.go hc
    split at h
    · rename_i hk
      simp only [Option.some.injEq,Prod.mk.injEq] at h;rw [← h.1,← h.2]
      exact next1_any g s hk hc ho hU w0 hK hP
    split at h
    · rename_i hk
      simp only [Option.some.injEq,Prod.mk.injEq] at h;rw [← h.1,← h.2]
      exact next2_any g s hk hc ho hU (h2 _ (fA (eX hc)) hk) w0 hK hP
    split at h
    · exact absurd h (by simp)
    rename_i a s1 e1
    have i1:=next_all g f _ _ _ (by omega) e1 fun t ht=>h2 t (hg.m t ht)
    have l1:=hg.trans (nx_left f _ _ _ e1)
    split at h
    · rename_i hk
      simp only [Option.some.injEq,Prod.mk.injEq] at h;rw [← h.1,← h.2]
      exact next3_any g s a s1 hk hc ho hU (big e1) w0 hK hP i1
    split at h
    · rename_i hk
      simp only [Option.some.injEq,Prod.mk.injEq] at h;rw [← h.1,← h.2]
      exact next4_any g s a s1 hk hc ho hU (big e1) w0 hK hP i1
    split at h
    · rename_i hk
      simp only [Option.some.injEq,Prod.mk.injEq] at h;rw [← h.1,← h.2]
      exact next5_any g s a s1 hk hc ho hU (big e1) w0 hK hP i1
    split at h
    · rename_i hk
      split at h
      · exact absurd h (by simp)
      rename_i b2 s2 e2
      have i2:=next_all g f _ _ _ (by omega) e2 fun t ht=>h2 t (l1.m t ht)
      simp only [Option.some.injEq,Prod.mk.injEq] at h;rw [← h.1,← h.2]
      exact next6_any g s a s1 b2 s2 hk hc ho hU (big e1) (big e2) w0 hK (hP.mono fun w hw=>⟨hw.1,hw.2.1,l1.t w hw.1,l1.u w hw.2.1,trivial⟩) i1 i2
    · exact absurd h (by simp)
theorem nextx_any {g:Nat} {a b:Option Addr} {c d:Nat} {ts:List bW} {z:Int} (h0:(kZ ts z != 0)=false) (h2:∀ t∈ts,t.kd=2→t.ks.length=2):NextC g (Mk.mk a c ts b d (gV ts z)) (xP ts z) (nxS (Mk.mk a c ts b d (gV ts z))) :=
  next_all g 8 _ _ _ (Nat.le_refl 8) (nxS_eq (nx_go (dD h0) a c b d)) h2
theorem dhard_any (x:Nat) (w0:World):Calls Tryz.prog 59 #[vu x] w0 (jR (.bool (hdB x)) w0):=by
 refine Calls.of_ok (n:=5) (F:=(fun _=>True)) Tryz.func59 rfl rfl rfl (by simp) jT ?_
 refine jJ Tryz.f59 1 [0,2] [vF] (jJ Tryz.f59 3 [2] (let qa:Value:=.bool (decide (2147483648≤((x:Nat):Int)));[vu x,qa,qa]) (aF ?_))
 exact mR (v:=(.bool (decide (2147483648≤((x:Nat):Int))))) (fun _ hS=>⟨jB (hd_dec x),hS.bel⟩)
theorem ixfunc_any (a:Option Addr) (c:Nat) (ps:List Nat) (w0:World) (hf0:Is w0 .u32 a c (nI ps)):Calls Tryz.prog 91 #[.slice a (nI ps).length c,.func (.func 59) #[] #[]] w0 (jR (vi (ixA ps 0)) w0):=by
 refine Calls.of_ok (n:=19) (F:=(fun w=>Is w .u32 a c (nI ps)∧True)) Tryz.func91 rfl rfl rfl (by simp) (hf0.pers0.and cO) ?_
 have hlen:(nI ps).length≤140737488351232:=hf0.max
 refine jJ Tryz.f91 1 [0,1,4] [vi 0] (aB (jJ Tryz.f91 3 [0,1,4,7,8] [.slice a (nI ps).length c,vn (nI ps).length,vi 0] (aI ?_)))
 refine oL (σ:=Nat) (fun i=>[(0,(.slice a (nI ps).length c)),(1,(.func (.func 59) #[] #[])),(7,(vn (nI ps).length)),(8,(vn i))]) (fun _=>[]) (fun i=>(nI ps).length-i)
   (fun i=>(i≤(nI ps).length)∧(ixA (ps.drop i) i=ixA ps 0)) 0 (⟨Nat.zero_le _,rfl⟩) [] ?_
 rintro i ⟨hi,hr⟩
 change Ok Tryz.prog _ _ 19 [(0,(.slice a (nI ps).length c)),(1,(.func (.func 59) #[] #[])),(7,(vn (nI ps).length)),(8,(vn i))] _ [] (fun w=>Is w .u32 a c (nI ps)∧True)
 refine jJ Tryz.f91 1 [0,1,7,8,9] [.bool (decide (((i:Nat):Int)<(((nI ps).length:Nat):Int)))] (aB ?_)
 refine oC (decide (((i:Nat):Int)<(((nI ps).length:Nat):Int))) (fun hb1=>?_) (fun hb1=>?_)
 ·
  rw [hb1]
  have:=yT hb1
  refine aG (aA (aB (aI (jJ Tryz.f91 2 [0,1,5,7,8] [vn i,vn i] ?_))))
  refine sS Tryz.f91 6 [0,1,5,7,8,16] [] (fun _=>[.func (.func 59) #[] #[],.slice a (nI ps).length c,vn i,.pointer (fK a i),vu (ps.getD i 0),.bool (hdB (ps.getD i 0))]) (fun _=>[]) (cR [[],[],[]]<|cX (qF (fun _ _ _ hG=>o6 (k:=.i64) Tryz.underlying49 Tryz.sizeOf41 hG.fn.1 rfl (show ((i:Nat):Int)=((i:Nat):Int) from rfl) (show i<(nI ps).length from (by omega))))<|cX (qF (v:=fun ρ=>(vu (ps.getD i 0))) (fun _ _ _ hG=>(rG Tryz.isAgg41 hG.fn.1 (show i<(nI ps).length from (by omega))).trans (by rw [yQ])))<|cC (fun _ w=>dhard_any (ps.getD i 0) w)<|cN) (fun _=>?_)
  refine oC (hdB (ps.getD i 0)) (fun hb2=>?_) (fun hb2=>?_)
  ·
   rw [hb2]
   refine jJ Tryz.f91 2 [0,1,4,7,8] [vn i,vn i] (aF (aP (aC (aC (aP (aC ?_))))))
   exact mR (v:=(vn i)) (fun _ hS=>⟨congrArg (fun x=>Ending.returned (vi x)) (ix_stop (by have:=fZ ps;omega) hb2 hr),hS.bel⟩)
  rw [hb2]
  refine aG (aJ (aA ?_))
  refine rS Tryz.f91 2 [0,1,7,8] [] (fun _=>[vn (i+1),vn (i+1)]) (fun _=>[]) (jW (fun ρ=>(((i:Nat):Int)+1)) (fun _=>(i+1)) (fun _=>(aW i 1 (by omega)))<|jE [[]]) (fun _=>?_)
  exact mN (i+1) (by show (nI ps).length-(i+1)<(nI ps).length-i;omega) (⟨(by omega),ix_next (by have:=fZ ps;omega) hb2 hr⟩) []
 rw [hb1]
 refine bF (aN (aN (aT (aA (jJ Tryz.f91 1 [4] [vi (-1)] (aF ?_))))))
 exact mR (v:=(vi (-1))) (fun _ hS=>⟨congrArg (fun x=>Ending.returned (vi x)) (ix_end (by have:=fZ ps;have:=yF hb1;omega) hr),hS.bel⟩)
theorem cofunc_any (a:Option Addr) (c:Nat) (ps:List Nat) (w0:World) (hf0:Is w0 .u32 a c (nI ps)):Calls Tryz.prog 58 #[.slice a (nI ps).length c,.func (.func 59) #[] #[]] w0 (jR (.bool (ps.any hdB)) w0):=by
 refine Calls.of_ok (n:=9) (F:=(fun w=>Is w .u32 a c (nI ps)∧True)) Tryz.func58 rfl rfl rfl (by simp) (hf0.pers0.and cO) ?_
 refine jJ Tryz.f58 1 [0,1,4] [vF] ?_
 refine sS Tryz.f58 5 [4] [] (fun _=>let qa:Value:=.bool (decide (0≤(ixA ps 0)));[.slice a (nI ps).length c,.func (.func 59) #[] #[],vi (ixA ps 0),qa,qa]) (fun _=>[]) (cR [[],[]]<|cX (qC (fun _ _ w hG=>ixfunc_any a c ps w hG.fn.1))<|jE [[],[]]) (fun _=>?_)
 refine aF ?_
 exact mR (v:=(.bool (decide (0≤(ixA ps 0))))) (fun _ hS=>⟨jB (ixA_any ps 0),hS.bel⟩)
theorem dvpath_any (p:dO) (hp:p.Ok) (w0:World) (hf0:Is w0 .u32 p.pa p.pc (nI p.ps)):Calls Tryz.prog 34 #[.agg (dO.row p)] w0 (jR (.bool (dO.vp p)) w0):=by
 refine Calls.of_ok (n:=40) (F:=(fun w=>Is w .u32 p.pa p.pc (nI p.ps)∧True)) Tryz.func34 rfl rfl rfl (by simp) (hf0.pers0.and cO) ?_
 have hlen:(nI p.ps).length≤140737488351232:=hf0.max
 have hnl:(nI p.ps).length=p.ps.length:=fZ p.ps
 refine sS Tryz.f34 2 [1,2] [] (fun ρ=>[pt (nb ρ 0),vF]) (fun ρ=>[(0,(nw ρ 0 (cL (dO.row p) 51)))]) (jE [[],[]]) (fun ρ1=>?_)
 refine aB ?_
 rcases Bool.eq_false_or_eq_true (decide (8<(((nI p.ps).length:Nat):Int))) with hb1 | hb1
 ·
  refine sS Tryz.f34 10 [1,2,14] [] (fun _=>[jp (nb ρ1 0) 43,.slice p.pa (nI p.ps).length p.pc,vn (nI p.ps).length,vT,vT,undef,undef,undef,undef,vT]) (fun _=>[]) (cR [[],[0],[]]<|cA (fun _=>vT) (fun _=>congrArg Value.bool hb1)<|jE [[],[],[],[],[],[]]) (fun _=>?_)
  refine oY ?_
  refine jJ Tryz.f34 1 [1,2] [vF] (aF (aC ?_))
  exact mR (v:=vF) (fun _ hS=>⟨jB (vp_1 (by have:=yT hb1;omega)),hS.bel⟩)
 refine sS Tryz.f34 10 [1,2,14] [] (fun _=>[jp (nb ρ1 0) 43,.slice p.pa (nI p.ps).length p.pc,vn (nI p.ps).length,vF,vF,pt (nb ρ1 0),.agg (kY p.k),.bool (fC p.k),.bool (!(fC p.k)),.bool (!(fC p.k))]) (fun _=>[]) (cR [[],[0],[]]<|cA (fun _=>vF) (fun _=>congrArg Value.bool hb1)<|cR [[],[],[0]]<|cC (fun _ w=>yN p.k hp.k w)<|jE [[],[]]) (fun _=>?_)
 refine oC (!(fC p.k)) (fun hb2=>?_) (fun hb2=>?_)
 ·
  rw [hb2]
  refine jJ Tryz.f34 1 [1,2] [vF] (aF (aC ?_))
  exact mR (v:=vF) (fun _ hS=>⟨jB (vp_2 (dF hb2)),hS.bel⟩)
 rw [hb2]
 refine aG (aA ?_)
 refine sS Tryz.f34 8 [1,2,3] [] (fun _=>let qa:=vi (p.k.d+(((nI p.ps).length:Nat):Int));[pt (nb ρ1 0),jp (nb ρ1 0) 40,vi p.k.d,jp (nb ρ1 0) 43,.slice p.pa (nI p.ps).length p.pc,vn (nI p.ps).length,qa,qa]) (fun _=>[]) (cR [[],[],[0],[],[0],[]]<|jU (fun ρ=>(p.k.d+(((nI p.ps).length:Nat):Int))) (fun _=>(p.k.d+(((nI p.ps).length:Nat):Int))) (fun _=>(gZ (by have:=oI (aV hb2);have:=yF hb1;omega)))<|jE [[]]) (fun _=>?_)
 refine aB (jM Tryz.f34 2 [1,2,3,23] [] [jp (nb ρ1 0) 44,.bool p.wd] [[],[0]] ?_)
 refine oC p.wd (fun hb3=>?_) (fun hb3=>?_)
 ·
  rw [hb3]
  refine rS Tryz.f34 3 [1,2,3] [] (fun _=>let qa:=vi (p.k.d+(((nI p.ps).length:Nat):Int)+1);[vi (p.k.d+(((nI p.ps).length:Nat):Int)),qa,qa]) (fun _=>[]) (cR [[]]<|jU (fun ρ=>((p.k.d+(((nI p.ps).length:Nat):Int))+1)) (fun _=>(p.k.d+(((nI p.ps).length:Nat):Int)+1)) (fun _=>(gZ (by have:=oI (aV hb2);have:=yF hb1;omega)))<|jE [[]]) (fun _=>?_)
  refine aA (aB (jJ Tryz.f34 2 [1,2,27] [vi (p.k.d+(((nI p.ps).length:Nat):Int)+1),.bool (decide (8<(p.k.d+(((nI p.ps).length:Nat):Int)+1)))] ?_))
  refine oC (decide (8<(p.k.d+(((nI p.ps).length:Nat):Int)+1))) (fun hb4=>?_) (fun hb4=>?_)
  ·
   rw [hb4]
   refine jJ Tryz.f34 1 [1,2] [vF] (aF (aC ?_))
   exact mR (v:=vF) (fun _ hS=>⟨jB (vp_3 (by have:=w1_t hb3;have:=yF hb1;have:=yT hb4;omega)),hS.bel⟩)
  rw [hb4]
  have:=yF hb4
  refine aG (aA ?_)
  refine sS Tryz.f34 4 [1,2,4] [] (fun _=>[jp (nb ρ1 0) 43,.slice p.pa (nI p.ps).length p.pc,.bool (p.ps.any hdB),.bool (p.ps.any hdB)]) (fun _=>[]) (cR [[],[0]]<|cX (qC (fun _ _ w hG=>cofunc_any p.pa p.pc p.ps w hG.fn.1))<|jE [[]]) (fun _=>?_)
  refine lK [(1,(pt (nb ρ1 0))),(2,vF),(4,(.bool (p.ps.any hdB)))] [(nb ρ1 0,(cL (dO.row p) 51))] ?_
  rcases Bool.eq_false_or_eq_true (p.ps.any hdB) with hb5 | hb5
  ·
   rw [hb5]
   refine sS Tryz.f34 10 [2] [0] (fun _=>let qa:Value:=.bool (!decide (p.k.s=0));[vT,vF,vF,pt (nb ρ1 0),pt (nb ρ1 0),U p.k.s,U 0,qa,qa,qa]) (fun _=>[]) (cR [[],[],[],[],[],[0],[]]<|cB (a:=fun ρ=>(U p.k.s)) (b:=fun ρ=>(U 0)) (v:=fun ρ=>(.bool (!decide (p.k.s=0)))) .neq 39 (fun _ _=>neqU p.k.s 0 hp.k.s (by decide +kernel) _)<|jE [[],[]]) (fun _=>?_)
   refine aF ?_
   exact mR (v:=(.bool (!decide (p.k.s=0)))) (fun _ hS=>⟨jB (show (!decide (p.k.s=0))=dO.vp p from (Decidable.em (p.k.s=0)).elim (fun h0=>by rw [decide_eq_true h0];exact vp_4 hb5 h0) (fun h0=>by rw [decide_eq_false h0];exact vp_5 (by have:=yF hb1;omega) (aV hb2) (by have:=w1_t hb3;have:=yF hb1;omega) (Or.inr h0))),hS.bel⟩)
  rw [hb5]
  refine jM Tryz.f34 10 [2] [0] [vF,vT,vT,undef,undef,undef,undef,undef,vT,vT] [[],[],[],[],[],[],[],[],[],[]] (aF ?_)
  exact mR (v:=vT) (fun _ hS=>⟨jB (vp_5 (by have:=yF hb1;omega) (aV hb2) (by have:=w1_t hb3;have:=yF hb1;omega) (Or.inl hb5)),hS.bel⟩)
 rw [hb3]
 refine aG (aA (aB (jJ Tryz.f34 2 [1,2,27] [vi (p.k.d+(((nI p.ps).length:Nat):Int)),.bool (decide (8<(p.k.d+(((nI p.ps).length:Nat):Int))))] ?_)))
 refine oC (decide (8<(p.k.d+(((nI p.ps).length:Nat):Int)))) (fun hb6=>?_) (fun hb6=>?_)
 ·
  rw [hb6]
  refine jJ Tryz.f34 1 [1,2] [vF] (aF (aC ?_))
  exact mR (v:=vF) (fun _ hS=>⟨jB (vp_3 (by have:=w1_f hb3;have:=yF hb1;have:=yT hb6;omega)),hS.bel⟩)
 rw [hb6]
 have:=yF hb6
 refine aG (aA ?_)
 refine sS Tryz.f34 4 [1,2,4] [] (fun _=>[jp (nb ρ1 0) 43,.slice p.pa (nI p.ps).length p.pc,.bool (p.ps.any hdB),.bool (p.ps.any hdB)]) (fun _=>[]) (cR [[],[0]]<|cX (qC (fun _ _ w hG=>cofunc_any p.pa p.pc p.ps w hG.fn.1))<|jE [[]]) (fun _=>?_)
 rcases Bool.eq_false_or_eq_true (p.ps.any hdB) with hb7 | hb7
 ·
  rw [hb7]
  refine sS Tryz.f34 10 [2] [0] (fun _=>let qa:Value:=.bool (!decide (p.k.s=0));[vT,vF,vF,pt (nb ρ1 0),pt (nb ρ1 0),U p.k.s,U 0,qa,qa,qa]) (fun _=>[]) (cR [[],[],[],[],[],[0],[]]<|cB (a:=fun ρ=>(U p.k.s)) (b:=fun ρ=>(U 0)) (v:=fun ρ=>(.bool (!decide (p.k.s=0)))) .neq 39 (fun _ _=>neqU p.k.s 0 hp.k.s (by decide +kernel) _)<|jE [[],[]]) (fun _=>?_)
  refine aF ?_
  exact mR (v:=(.bool (!decide (p.k.s=0)))) (fun _ hS=>⟨jB (show (!decide (p.k.s=0))=dO.vp p from (Decidable.em (p.k.s=0)).elim (fun h0=>by rw [decide_eq_true h0];exact vp_4 hb7 h0) (fun h0=>by rw [decide_eq_false h0];exact vp_5 (by have:=yF hb1;omega) (aV hb2) (by have:=w1_f hb3;have:=yF hb1;omega) (Or.inr h0))),hS.bel⟩)
 rw [hb7]
 refine jM Tryz.f34 10 [2] [0] [vF,vT,vT,undef,undef,undef,undef,undef,vT,vT] [[],[],[],[],[],[],[],[],[],[]] (aF ?_)
 exact mR (v:=vT) (fun _ hS=>⟨jB (vp_5 (by have:=yF hb1;omega) (aV hb2) (by have:=w1_f hb3;have:=yF hb1;omega) (Or.inl hb7)),hS.bel⟩)
theorem rdvpath_any (p:dO) (hp:p.Ok) (w0:World) (hf0:Is w0 .u32 p.pa p.pc (nI p.ps)):Calls Tryz.prog 39 #[.agg (dO.row p)] w0 (jR (.bool (dO.vp p)) w0):=by
 refine Calls.of_ok (n:=49) (F:=(fun w=>Is w .u32 p.pa p.pc (nI p.ps)∧True)) Tryz.func39 rfl rfl rfl (by simp) (hf0.pers0.and cO) ?_
 have hlen:(nI p.ps).length≤140737488351232:=hf0.max
 have hnl:(nI p.ps).length=p.ps.length:=fZ p.ps
 refine sS Tryz.f39 2 [1,2] [] (fun ρ=>[pt (nb ρ 0),vF]) (fun ρ=>[(0,(nw ρ 0 (cL (dO.row p) 51)))]) (jE [[],[]]) (fun ρ1=>?_)
 refine jM Tryz.f39 4 [1,2,3] [] [jp (nb ρ1 0) 43,.slice p.pa (nI p.ps).length p.pc,vn (nI p.ps).length,vn (nI p.ps).length] [[],[0],[],[]] (aB (jM Tryz.f39 2 [1,2,3,9] [] [jp (nb ρ1 0) 44,.bool p.wd] [[],[0]] ?_))
 refine oC p.wd (fun hb1=>?_) (fun hb1=>?_)
 ·
  rw [hb1]
  refine rS Tryz.f39 3 [1,2,3] [] (fun _=>let qa:=vn ((nI p.ps).length+1);[vn (nI p.ps).length,qa,qa]) (fun _=>[]) (cR [[]]<|jW (fun ρ=>((((nI p.ps).length:Nat):Int)+1)) (fun _=>((nI p.ps).length+1)) (fun _=>(aW (nI p.ps).length 1 (by omega)))<|jE [[]]) (fun _=>?_)
  refine aA (aB ?_)
  rcases Bool.eq_false_or_eq_true (decide (8<(((nI p.ps).length:Nat):Int))) with hb2 | hb2
  ·
   refine sS Tryz.f39 18 [1,2,29] [] (fun _=>[jp (nb ρ1 0) 43,.slice p.pa (nI p.ps).length p.pc,vn (nI p.ps).length,vT,vT,undef,undef,undef,undef,vT,vT,undef,undef,undef,undef,undef,undef,vT]) (fun _=>[]) (cR [[],[0],[]]<|cA (fun _=>vT) (fun _=>congrArg Value.bool hb2)<|jE [[],[],[],[],[],[],[],[],[],[],[],[],[],[]]) (fun _=>?_)
   refine oY ?_
   refine jJ Tryz.f39 1 [1,2] [vF] (aF (aC ?_))
   exact mR (v:=vF) (fun _ hS=>⟨jB (vp_1 (by have:=yT hb2;omega)),hS.bel⟩)
  rcases Bool.eq_false_or_eq_true (fC p.k) with hb3 | hb3
  ·
   refine sS Tryz.f39 18 [1,2,29] [] (fun _=>let qa:Value:=.bool (decide (8<(p.k.d+(((nI p.ps).length+1:Nat):Int))));[jp (nb ρ1 0) 43,.slice p.pa (nI p.ps).length p.pc,vn (nI p.ps).length,vF,vF,pt (nb ρ1 0),.agg (kY p.k),vT,vF,vF,vF,pt (nb ρ1 0),jp (nb ρ1 0) 40,vi p.k.d,vn ((nI p.ps).length+1),vi (p.k.d+(((nI p.ps).length+1:Nat):Int)),qa,qa]) (fun _=>[]) (cR [[],[0],[]]<|cA (fun _=>vF) (fun _=>congrArg Value.bool hb2)<|cR [[],[],[0]]<|cC (f:=40) (args:=fun ρ=> #[.agg (kY p.k)]) (v:=fun ρ=>vT) (fun _ w=>by as_aux_lemma=>(have hcall:=(fun w=>oQ p.k hp.k w) w;rw [hb3] at hcall;exact hcall))<|cR [[],[],[],[],[],[0],[]]<|jU (fun ρ=>(p.k.d+(((nI p.ps).length+1:Nat):Int))) (fun _=>(p.k.d+(((nI p.ps).length+1:Nat):Int))) (fun _=>(gZ (by have:=oI hb3;have:=yF hb2;omega)))<|jE [[],[]]) (fun _=>?_)
   refine oC (decide (8<(p.k.d+(((nI p.ps).length+1:Nat):Int)))) (fun hb4=>?_) (fun hb4=>?_)
   ·
    rw [hb4]
    refine jJ Tryz.f39 1 [1,2] [vF] (aF (aC ?_))
    exact mR (v:=vF) (fun _ hS=>⟨jB (vp_3 (by have:=w1_t hb1;have:=yF hb2;have:=yT hb4;omega)),hS.bel⟩)
   rw [hb4]
   have:=yF hb4
   refine aG (aA (aB (jJ Tryz.f39 1 [1,2,4] [vi 0] (aI ?_))))
   refine oL (σ:=Nat) (fun i=>[(1,(pt (nb ρ1 0))),(4,(vn i))]) (fun _=>[(nb ρ1 0,(cL (dO.row p) 51))]) (fun i=>(nI p.ps).length-i)
     (fun i=>(i≤(nI p.ps).length)∧((p.ps.drop i).any p.hf=p.ps.any p.hf)) 0 (⟨Nat.zero_le _,rfl⟩) [] ?_
   rintro i ⟨hi,hr⟩
   change Ok Tryz.prog _ _ 49 [(1,(pt (nb ρ1 0))),(4,(vn i))] _ [(nb ρ1 0,(cL (dO.row p) 51))] (fun w=>Is w .u32 p.pa p.pc (nI p.ps)∧True)
   refine aB (jM Tryz.f39 5 [1,4,34] [] [vn i,jp (nb ρ1 0) 43,.slice p.pa (nI p.ps).length p.pc,vn (nI p.ps).length,.bool (decide (((i:Nat):Int)<(((nI p.ps).length:Nat):Int)))] [[],[],[0],[],[]] ?_)
   refine oC (decide (((i:Nat):Int)<(((nI p.ps).length:Nat):Int))) (fun hb5=>?_) (fun hb5=>?_)
   ·
    rw [hb5]
    have:=yT hb5
    refine aG (aA (aB (aI ?_)))
    rcases Bool.eq_false_or_eq_true (decide (2147483648≤((p.ps.getD i 0:Nat):Int))) with hb6 | hb6
    ·
     refine sS Tryz.f39 12 [1,4,48] [] (fun _=>let qa:Value:=.bool (decide (p.k.s=0));[jp (nb ρ1 0) 43,.slice p.pa (nI p.ps).length p.pc,vn i,.pointer (fK p.pa i),vu (p.ps.getD i 0),vT,vT,pt (nb ρ1 0),pt (nb ρ1 0),U p.k.s,qa,qa]) (fun _=>[]) (cR [[],[0],[]]<|cX (qF (fun _ _ _ hG=>o6 (k:=.i64) Tryz.underlying49 Tryz.sizeOf41 hG.fn.1 rfl (show ((i:Nat):Int)=((i:Nat):Int) from rfl) (show i<(nI p.ps).length from (by have:=yF hb2;have:=yT hb6;omega))))<|cX (qF (v:=fun ρ=>(vu (p.ps.getD i 0))) (fun _ _ _ hG=>(rG Tryz.isAgg41 hG.fn.1 (show i<(nI p.ps).length from (by have:=yF hb2;have:=yT hb6;omega))).trans (by rw [yQ])))<|cA (fun _=>vT) (fun _=>congrArg Value.bool hb6)<|cR [[],[],[],[0]]<|cC (fun _ w=>iI p.k.s w hp.k.s)<|jE [[]]) (fun _=>?_)
     refine oC (decide (p.k.s=0)) (fun hb7=>?_) (fun hb7=>?_)
     ·
      rw [hb7]
      refine jJ Tryz.f39 1 [1,2,4] [vF] (aF (aP (aC (aC (aP (aC ?_))))))
      exact mR (v:=vF) (fun _ hS=>⟨jB (vp_6 (pa_stop (f:=p.hf) (by have:=yF hb2;have:=yT hb6;have:=yT hb7;omega) (hf_c hb6 hb7) hr)),hS.bel⟩)
     rw [hb7]
     have:=yF hb7
     refine aG (aJ (aA ?_))
     refine rS Tryz.f39 3 [1,4] [] (fun _=>[vn i,vn (i+1),vn (i+1)]) (fun _=>[]) (cR [[]]<|jW (fun ρ=>(((i:Nat):Int)+1)) (fun _=>(i+1)) (fun _=>(aW i 1 (by have:=yF hb2;have:=yT hb6;omega)))<|jE [[]]) (fun _=>?_)
     exact mN (i+1) (by show (nI p.ps).length-(i+1)<(nI p.ps).length-i;have:=yF hb2;have:=yT hb6;omega) (⟨(by have:=yF hb2;have:=yT hb6;omega),pa_next (f:=p.hf) (by have:=yF hb2;have:=yT hb6;omega) (hf_b hb7) hr⟩) []
    refine sS Tryz.f39 12 [1,4,48] [] (fun _=>[jp (nb ρ1 0) 43,.slice p.pa (nI p.ps).length p.pc,vn i,.pointer (fK p.pa i),vu (p.ps.getD i 0),vF,vF,undef,undef,undef,undef,vF]) (fun _=>[]) (cR [[],[0],[]]<|cX (qF (fun _ _ _ hG=>o6 (k:=.i64) Tryz.underlying49 Tryz.sizeOf41 hG.fn.1 rfl (show ((i:Nat):Int)=((i:Nat):Int) from rfl) (show i<(nI p.ps).length from (by have:=yF hb2;have:=yF hb6;omega))))<|cX (qF (v:=fun ρ=>(vu (p.ps.getD i 0))) (fun _ _ _ hG=>(rG Tryz.isAgg41 hG.fn.1 (show i<(nI p.ps).length from (by have:=yF hb2;have:=yF hb6;omega))).trans (by rw [yQ])))<|cA (fun _=>vF) (fun _=>congrArg Value.bool hb6)<|jE [[],[],[],[],[],[]]) (fun _=>?_)
    refine oN ?_
    refine aG (aJ (aA ?_))
    refine rS Tryz.f39 3 [1,4] [] (fun _=>[vn i,vn (i+1),vn (i+1)]) (fun _=>[]) (cR [[]]<|jW (fun ρ=>(((i:Nat):Int)+1)) (fun _=>(i+1)) (fun _=>(aW i 1 (by have:=yF hb2;have:=yF hb6;omega)))<|jE [[]]) (fun _=>?_)
    exact mN (i+1) (by show (nI p.ps).length-(i+1)<(nI p.ps).length-i;have:=yF hb2;have:=yF hb6;omega) (⟨(by have:=yF hb2;have:=yF hb6;omega),pa_next (f:=p.hf) (by have:=yF hb2;have:=yF hb6;omega) (hf_a hb6) hr⟩) []
   rw [hb5]
   have:=yF hb5
   refine bF (aN (aN (aT (aA (jM Tryz.f39 1 [2] [0] [vT] [[]] (aF ?_))))))
   exact mR (v:=vT) (fun _ hS=>⟨jB (vp_5 (by have:=yF hb2;omega) hb3 (by have:=w1_t hb1;have:=yF hb2;omega) (vp_7 (all_endN (by have:=yF hb2;omega) hr))),hS.bel⟩)
  refine sS Tryz.f39 18 [1,2,29] [] (fun _=>[jp (nb ρ1 0) 43,.slice p.pa (nI p.ps).length p.pc,vn (nI p.ps).length,vF,vF,pt (nb ρ1 0),.agg (kY p.k),vF,vT,vT,vT,undef,undef,undef,undef,undef,undef,vT]) (fun _=>[]) (cR [[],[0],[]]<|cA (fun _=>vF) (fun _=>congrArg Value.bool hb2)<|cR [[],[],[0]]<|cC (f:=40) (args:=fun ρ=> #[.agg (kY p.k)]) (v:=fun ρ=>vF) (fun _ w=>by as_aux_lemma=>(have hcall:=(fun w=>oQ p.k hp.k w) w;rw [hb3] at hcall;exact hcall))<|jE [[],[],[],[],[],[],[],[],[],[]]) (fun _=>?_)
  refine oY ?_
  refine jJ Tryz.f39 1 [1,2] [vF] (aF (aC ?_))
  exact mR (v:=vF) (fun _ hS=>⟨jB (vp_2 hb3),hS.bel⟩)
 rw [hb1]
 refine aG (aA (aB ?_))
 rcases Bool.eq_false_or_eq_true (decide (8<(((nI p.ps).length:Nat):Int))) with hb8 | hb8
 ·
  refine sS Tryz.f39 18 [1,2,29] [] (fun _=>[jp (nb ρ1 0) 43,.slice p.pa (nI p.ps).length p.pc,vn (nI p.ps).length,vT,vT,undef,undef,undef,undef,vT,vT,undef,undef,undef,undef,undef,undef,vT]) (fun _=>[]) (cR [[],[0],[]]<|cA (fun _=>vT) (fun _=>congrArg Value.bool hb8)<|jE [[],[],[],[],[],[],[],[],[],[],[],[],[],[]]) (fun _=>?_)
  refine oY ?_
  refine jJ Tryz.f39 1 [1,2] [vF] (aF (aC ?_))
  exact mR (v:=vF) (fun _ hS=>⟨jB (vp_1 (by have:=yT hb8;omega)),hS.bel⟩)
 rcases Bool.eq_false_or_eq_true (fC p.k) with hb9 | hb9
 ·
  refine sS Tryz.f39 18 [1,2,29] [] (fun _=>let qa:Value:=.bool (decide (8<(p.k.d+(((nI p.ps).length:Nat):Int))));[jp (nb ρ1 0) 43,.slice p.pa (nI p.ps).length p.pc,vn (nI p.ps).length,vF,vF,pt (nb ρ1 0),.agg (kY p.k),vT,vF,vF,vF,pt (nb ρ1 0),jp (nb ρ1 0) 40,vi p.k.d,vn (nI p.ps).length,vi (p.k.d+(((nI p.ps).length:Nat):Int)),qa,qa]) (fun _=>[]) (cR [[],[0],[]]<|cA (fun _=>vF) (fun _=>congrArg Value.bool hb8)<|cR [[],[],[0]]<|cC (f:=40) (args:=fun ρ=> #[.agg (kY p.k)]) (v:=fun ρ=>vT) (fun _ w=>by as_aux_lemma=>(have hcall:=(fun w=>oQ p.k hp.k w) w;rw [hb9] at hcall;exact hcall))<|cR [[],[],[],[],[],[0],[]]<|jU (fun ρ=>(p.k.d+(((nI p.ps).length:Nat):Int))) (fun _=>(p.k.d+(((nI p.ps).length:Nat):Int))) (fun _=>(gZ (by have:=oI hb9;have:=yF hb8;omega)))<|jE [[],[]]) (fun _=>?_)
  refine oC (decide (8<(p.k.d+(((nI p.ps).length:Nat):Int)))) (fun hb10=>?_) (fun hb10=>?_)
  ·
   rw [hb10]
   refine jJ Tryz.f39 1 [1,2] [vF] (aF (aC ?_))
   exact mR (v:=vF) (fun _ hS=>⟨jB (vp_3 (by have:=w1_f hb1;have:=yF hb8;have:=yT hb10;omega)),hS.bel⟩)
  rw [hb10]
  have:=yF hb10
  refine aG (aA (aB (jJ Tryz.f39 1 [1,2,4] [vi 0] (aI ?_))))
  refine oL (σ:=Nat) (fun i=>[(1,(pt (nb ρ1 0))),(4,(vn i))]) (fun _=>[(nb ρ1 0,(cL (dO.row p) 51))]) (fun i=>(nI p.ps).length-i)
    (fun i=>(i≤(nI p.ps).length)∧((p.ps.drop i).any p.hf=p.ps.any p.hf)) 0 (⟨Nat.zero_le _,rfl⟩) [] ?_
  rintro i ⟨hi,hr⟩
  change Ok Tryz.prog _ _ 49 [(1,(pt (nb ρ1 0))),(4,(vn i))] _ [(nb ρ1 0,(cL (dO.row p) 51))] (fun w=>Is w .u32 p.pa p.pc (nI p.ps)∧True)
  refine aB (jM Tryz.f39 5 [1,4,34] [] [vn i,jp (nb ρ1 0) 43,.slice p.pa (nI p.ps).length p.pc,vn (nI p.ps).length,.bool (decide (((i:Nat):Int)<(((nI p.ps).length:Nat):Int)))] [[],[],[0],[],[]] ?_)
  refine oC (decide (((i:Nat):Int)<(((nI p.ps).length:Nat):Int))) (fun hb11=>?_) (fun hb11=>?_)
  ·
   rw [hb11]
   have:=yT hb11
   refine aG (aA (aB (aI ?_)))
   rcases Bool.eq_false_or_eq_true (decide (2147483648≤((p.ps.getD i 0:Nat):Int))) with hb12 | hb12
   ·
    refine sS Tryz.f39 12 [1,4,48] [] (fun _=>let qa:Value:=.bool (decide (p.k.s=0));[jp (nb ρ1 0) 43,.slice p.pa (nI p.ps).length p.pc,vn i,.pointer (fK p.pa i),vu (p.ps.getD i 0),vT,vT,pt (nb ρ1 0),pt (nb ρ1 0),U p.k.s,qa,qa]) (fun _=>[]) (cR [[],[0],[]]<|cX (qF (fun _ _ _ hG=>o6 (k:=.i64) Tryz.underlying49 Tryz.sizeOf41 hG.fn.1 rfl (show ((i:Nat):Int)=((i:Nat):Int) from rfl) (show i<(nI p.ps).length from (by have:=yF hb8;have:=yT hb12;omega))))<|cX (qF (v:=fun ρ=>(vu (p.ps.getD i 0))) (fun _ _ _ hG=>(rG Tryz.isAgg41 hG.fn.1 (show i<(nI p.ps).length from (by have:=yF hb8;have:=yT hb12;omega))).trans (by rw [yQ])))<|cA (fun _=>vT) (fun _=>congrArg Value.bool hb12)<|cR [[],[],[],[0]]<|cC (fun _ w=>iI p.k.s w hp.k.s)<|jE [[]]) (fun _=>?_)
    refine oC (decide (p.k.s=0)) (fun hb13=>?_) (fun hb13=>?_)
    ·
     rw [hb13]
     refine jJ Tryz.f39 1 [1,2,4] [vF] (aF (aP (aC (aC (aP (aC ?_))))))
     exact mR (v:=vF) (fun _ hS=>⟨jB (vp_6 (pa_stop (f:=p.hf) (by have:=yF hb8;have:=yT hb12;have:=yT hb13;omega) (hf_c hb12 hb13) hr)),hS.bel⟩)
    rw [hb13]
    have:=yF hb13
    refine aG (aJ (aA ?_))
    refine rS Tryz.f39 3 [1,4] [] (fun _=>[vn i,vn (i+1),vn (i+1)]) (fun _=>[]) (cR [[]]<|jW (fun ρ=>(((i:Nat):Int)+1)) (fun _=>(i+1)) (fun _=>(aW i 1 (by have:=yF hb8;have:=yT hb12;omega)))<|jE [[]]) (fun _=>?_)
    exact mN (i+1) (by show (nI p.ps).length-(i+1)<(nI p.ps).length-i;have:=yF hb8;have:=yT hb12;omega) (⟨(by have:=yF hb8;have:=yT hb12;omega),pa_next (f:=p.hf) (by have:=yF hb8;have:=yT hb12;omega) (hf_b hb13) hr⟩) []
   refine sS Tryz.f39 12 [1,4,48] [] (fun _=>[jp (nb ρ1 0) 43,.slice p.pa (nI p.ps).length p.pc,vn i,.pointer (fK p.pa i),vu (p.ps.getD i 0),vF,vF,undef,undef,undef,undef,vF]) (fun _=>[]) (cR [[],[0],[]]<|cX (qF (fun _ _ _ hG=>o6 (k:=.i64) Tryz.underlying49 Tryz.sizeOf41 hG.fn.1 rfl (show ((i:Nat):Int)=((i:Nat):Int) from rfl) (show i<(nI p.ps).length from (by have:=yF hb8;have:=yF hb12;omega))))<|cX (qF (v:=fun ρ=>(vu (p.ps.getD i 0))) (fun _ _ _ hG=>(rG Tryz.isAgg41 hG.fn.1 (show i<(nI p.ps).length from (by have:=yF hb8;have:=yF hb12;omega))).trans (by rw [yQ])))<|cA (fun _=>vF) (fun _=>congrArg Value.bool hb12)<|jE [[],[],[],[],[],[]]) (fun _=>?_)
   refine oN ?_
   refine aG (aJ (aA ?_))
   refine rS Tryz.f39 3 [1,4] [] (fun _=>[vn i,vn (i+1),vn (i+1)]) (fun _=>[]) (cR [[]]<|jW (fun ρ=>(((i:Nat):Int)+1)) (fun _=>(i+1)) (fun _=>(aW i 1 (by have:=yF hb8;have:=yF hb12;omega)))<|jE [[]]) (fun _=>?_)
   exact mN (i+1) (by show (nI p.ps).length-(i+1)<(nI p.ps).length-i;have:=yF hb8;have:=yF hb12;omega) (⟨(by have:=yF hb8;have:=yF hb12;omega),pa_next (f:=p.hf) (by have:=yF hb8;have:=yF hb12;omega) (hf_a hb12) hr⟩) []
  rw [hb11]
  have:=yF hb11
  refine bF (aN (aN (aT (aA (jM Tryz.f39 1 [2] [0] [vT] [[]] (aF ?_))))))
  exact mR (v:=vT) (fun _ hS=>⟨jB (vp_5 (by have:=yF hb8;omega) hb9 (by have:=w1_f hb1;have:=yF hb8;omega) (vp_7 (all_endN (by have:=yF hb8;omega) hr))),hS.bel⟩)
 refine sS Tryz.f39 18 [1,2,29] [] (fun _=>[jp (nb ρ1 0) 43,.slice p.pa (nI p.ps).length p.pc,vn (nI p.ps).length,vF,vF,pt (nb ρ1 0),.agg (kY p.k),vF,vT,vT,vT,undef,undef,undef,undef,undef,undef,vT]) (fun _=>[]) (cR [[],[0],[]]<|cA (fun _=>vF) (fun _=>congrArg Value.bool hb8)<|cR [[],[],[0]]<|cC (f:=40) (args:=fun ρ=> #[.agg (kY p.k)]) (v:=fun ρ=>vF) (fun _ w=>by as_aux_lemma=>(have hcall:=(fun w=>oQ p.k hp.k w) w;rw [hb9] at hcall;exact hcall))<|jE [[],[],[],[],[],[],[],[],[],[]]) (fun _=>?_)
 refine oY ?_
 refine jJ Tryz.f39 1 [1,2] [vF] (aF (aC ?_))
 exact mR (v:=vF) (fun _ hS=>⟨jB (vp_2 hb9),hS.bel⟩)
end Go.Proofs.YtaebcmpbbamfpaaGreatDoor
