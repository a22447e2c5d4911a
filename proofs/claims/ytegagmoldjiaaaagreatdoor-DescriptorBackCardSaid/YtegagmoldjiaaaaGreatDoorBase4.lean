/-
  What this statement needs, part 4: the texts of it, one behind the other.
-/
import Derived.Test.YtegagmoldjiaaaaGreatDoorBase3
set_option maxRecDepth 100000
namespace Go.Proofs.YtegagmoldjiaaaaGreatDoor
open Go Go.RowKit
theorem xBE (v:Int) (n:Nat) (hn:0<n∧n≤1099511627776) (__hv: -9223372036854775808≤v∧v<9223372036854775808) (w0:World):Calls Tryz.prog 14 #[vi v,vn n] w0 (jR (vn (dm v n)) w0):=by
 refine Calls.of_ok (n:=15) (F:=(fun _=>True)) Tryz.func14 rfl rfl rfl (by simp) jT ?_
 refine jJ Tryz.f14 1 [0,1,4] [vi 0] ?_
 refine sS Tryz.f14 4 [1,4,5] [] (fun _=>let qa:=vi (Int.tmod v ((n:Nat):Int));[vi v,vn n,qa,qa]) (fun _=>[]) (cR [[],[]]<|cB (a:=fun ρ=>(vi v)) (b:=fun ρ=>(vn n)) (v:=fun ρ=>(vi (Int.tmod v ((n:Nat):Int)))) .rem 3 (fun _ w=>run_remI hn.1 w)<|jE [[]]) (fun _=>?_)
 refine aB (jJ Tryz.f14 2 [1,4,5,10] [vi (Int.tmod v ((n:Nat):Int)),.bool (decide ((Int.tmod v ((n:Nat):Int))<0))] ?_)
 refine oC (decide ((Int.tmod v ((n:Nat):Int))<0)) (fun hb1=>?_) (fun hb1=>?_)
 ·
  rw [hb1]
  refine rS Tryz.f14 4 [4,5] [] (fun _=>[vi (Int.tmod v ((n:Nat):Int)),vn n,vn (dm v n),vn (dm v n)]) (fun _=>[]) (cR [[],[]]<|cA (fun _=>(vn (dm v n))) (fun _=>jI (mod_wrap hn (yT hb1)))<|jE [[]]) (fun _=>?_)
  refine aA (jJ Tryz.f14 2 [4] [vn (dm v n),vn (dm v n)] (aF ?_))
  exact mR (v:=(vn (dm v n))) (fun _ hS=>⟨rfl,hS.bel⟩)
 rw [hb1]
 refine aG (aA (jJ Tryz.f14 2 [4] (let qa:=vi (Int.tmod v ((n:Nat):Int));[qa,qa]) (aF ?_)))
 exact mR (v:=(vi (Int.tmod v ((n:Nat):Int)))) (fun _ hS=>⟨congrArg (fun x=>Ending.returned (vi x)) (mod_pos (yF hb1)),hS.bel⟩)
theorem left_any (g:Nat) (a:Option Addr) (c:Nat) (zs:List Int) (j:Nat) (w0:World) (hf0:Kb w0 g #[.slice a zs.length c,vn (pN zs j)]):Calls Tryz.prog 36 #[pt g] w0 (jR (.bool (decide (((pN zs j:Nat):Int)<((zs.length:Nat):Int)))) w0):=by
 refine Calls.of_ok (n:=13) (F:=(fun w=>Kb w g #[.slice a zs.length c,vn (pN zs j)]∧True)) Tryz.func36 rfl rfl rfl (by simp) (hf0.pers0.and cO) ?_
 refine jJ Tryz.f36 1 [0,2] [vF] ?_
 refine sD Tryz.f36 [0,1,3,7,0,16,48,112,240,511,1023] 11 [2] [] (fun _=>let qa:Value:=.bool (decide (((pN zs j:Nat):Int)<((zs.length:Nat):Int)));[pt g,pt g,jp g 1,vn (pN zs j),pt g,pt g,pt g,.slice a zs.length c,vn zs.length,qa,qa]) (fun _=>[]) (cR [[],[],[]]<|cX (qF (v:=fun ρ=>(vn (pN zs j))) (fun _ _ _ hG=>mY (off:=1) Tryz.isAgg3 hG.fn.1 (rfl)))<|cR [[],[],[]]<|cX (qF (v:=fun ρ=>(.slice a zs.length c)) (fun _ _ _ hG=>mY (off:=0) Tryz.isAgg22 hG.fn.1 (rfl)))<|jE [[],[],[]]) (fun _=>?_)
 refine aF ?_
 exact mR (v:=(.bool (decide (((pN zs j:Nat):Int)<((zs.length:Nat):Int))))) (fun _ hS=>⟨rfl,hS.bel⟩)
theorem next_any (g:Nat) (a:Option Addr) (c:Nat) (zs:List Int) (j:Nat) (n:Nat) (hn:0<n∧n≤1099511627776) (hz:Z64 zs) (w0:World) (hK:Knows [(g,(cL #[.slice a zs.length c,vn (pN zs j)] 62))] w0) (hP:dL (fun b=>b∈([(g,(cL #[.slice a zs.length c,vn (pN zs j)] 62))]:List (Nat × Obj)).map (·.1)) (fun w=>Is w .i64 a c zs∧True) w0):Calls Tryz.prog 20 #[pt g,vn n] w0 (fun ε w'=>ε=.returned (vn (dN zs j n))∧nN (fun b=>b∈([(g,(cL #[.slice a zs.length c,vn (pN zs j)] 62))]:List (Nat × Obj)).map (·.1)) w0 w'∧Knows [(g,(cL #[.slice a zs.length c,vn (pN zs (j+1))] 62))] w'):=by
 refine Calls.of_okW (n:=28) (F:=(fun w=>Is w .i64 a c zs∧True)) [(g,(cL #[.slice a zs.length c,vn (pN zs j)] 62))] Tryz.func20 rfl rfl rfl (by simp) hK (by simp) hP ?_
 have hlen:zs.length≤140737488351232:=hP.now.1.max
 refine jJ Tryz.f20 1 [0,1,4] [vi 0] (aB ?_)
 refine sS Tryz.f20 3 [0,1,4,7] [] (fun _=>[pt g,.bool (decide (((pN zs j:Nat):Int)<((zs.length:Nat):Int))),.bool (!(decide (((pN zs j:Nat):Int)<((zs.length:Nat):Int))))]) (fun _=>[]) (cR [[]]<|cX (qC (fun _ _ w hG=>left_any g a c zs j w (Kb.of_block (hG.kn (g:=g) (o:=(cL #[.slice a zs.length c,vn (pN zs j)] 62)) 0))))<|jE [[]]) (fun _=>?_)
 refine oC (!(decide (((pN zs j:Nat):Int)<((zs.length:Nat):Int)))) (fun hb1=>?_) (fun hb1=>?_)
 ·
  rw [hb1]
  refine jJ Tryz.f20 1 [0,1,4] [vi 0] (aF (aC ?_))
  exact mR (v:=(vi 0)) (fun _ hS=>⟨congrArg (fun x=>Ending.returned (vi x)) (congrArg (fun z:Nat=>(z:Int)) (dN_no (fun h=>absurd (Int.ofNat_lt.2 h) (yF (dF hb1))))),hS.below,(by rw [(pN_ge (fun h=>absurd (Int.ofNat_lt.2 h) (yF (dF hb1)))).2];exact hS.knows [1])⟩)
 rw [hb1]
 refine aG (aA ?_)
 refine sS Tryz.f20 8 [0,1,4] [] (fun _=>[pt g,pt g,jp g 1,vn (pN zs j),vn (pN zs (j+1)),pt g,jp g 1,undef]) (fun _=>[(7,(bD 0 g (cL #[.slice a zs.length c,vn (pN zs (j+1))] 62)))]) (cR [[],[],[],[0]]<|cA (fun _=>(vn (pN zs (j+1)))) (fun _=>jI (pN_wrap hlen (yT (aV hb1))))<|jE [[],[],[0]]) (fun _=>?_)
 refine sD Tryz.f20 [0,1,3,7,0,16,48,112,240,511,1023,0,4095,8191] 14 [4] [] (fun _=>let qa:=vn (dm (gI zs (pN zs j)) n);[pt g,pt g,pt g,.slice a zs.length c,pt g,pt g,jp g 1,vn (pN zs (j+1)),vn (pN zs j),.pointer (fK a (pN zs j)),vi (gI zs (pN zs j)),vn n,qa,qa]) (fun _=>[]) (cR [[],[],[],[0],[],[],[],[0]]<|cA (fun _=>(vn (pN zs j))) (fun _=>jI (pN_back hlen (yT (aV hb1))))<|cX (qF (fun _ _ _ hG=>o6 (k:=.i64) Tryz.underlying22 Tryz.sizeOf3 hG.fn.1 rfl (show ((pN zs j:Nat):Int)=((pN zs j:Nat):Int) from rfl) (show pN zs j<zs.length from (Int.ofNat_lt.1 (yT (aV hb1))))))<|cX (qF (fun _ _ _ hG=>rG Tryz.isAgg3 hG.fn.1 (show pN zs j<zs.length from (Int.ofNat_lt.1 (yT (aV hb1))))))<|cR [[]]<|cC (f:=14) (args:=fun ρ=> #[vi (gI zs (pN zs j)),vn n]) (v:=fun ρ=>(vn (dm (gI zs (pN zs j)) n))) (fun _ w=>(fun w=>xBE (gI zs (pN zs j)) n hn (hz.get _) w) w)<|jE [[]]) (fun _=>?_)
 refine aF ?_
 exact mR (v:=(vn (dm (gI zs (pN zs j)) n))) (fun _ hS=>⟨congrArg (fun x=>Ending.returned (vi x)) (congrArg (fun z:Nat=>(z:Int)) (dN_yes (Int.ofNat_lt.1 (yT (aV hb1))))),hS.below,hS.knows [1]⟩)
theorem range_any (g:Nat) (a:Option Addr) (c:Nat) (zs:List Int) (j:Nat) (lo:Nat) (hi:Nat) (hlh:lo≤hi∧hi≤1000000) (hz:Z64 zs) (w0:World) (hK:Knows [(g,(cL #[.slice a zs.length c,vn (pN zs j)] 62))] w0) (hP:dL (fun b=>b∈([(g,(cL #[.slice a zs.length c,vn (pN zs j)] 62))]:List (Nat × Obj)).map (·.1)) (fun w=>Is w .i64 a c zs∧True) w0):Calls Tryz.prog 23 #[pt g,vn lo,vn hi] w0 (fun ε w'=>ε=.returned (vn (lo+dN zs j (hi-lo+1)))∧nN (fun b=>b∈([(g,(cL #[.slice a zs.length c,vn (pN zs j)] 62))]:List (Nat × Obj)).map (·.1)) w0 w'∧Knows [(g,(cL #[.slice a zs.length c,vn (pN zs (j+1))] 62))] w'):=by
 refine Calls.of_okW (n:=15) (F:=(fun w=>Is w .i64 a c zs∧True)) [(g,(cL #[.slice a zs.length c,vn (pN zs j)] 62))] Tryz.func23 rfl rfl rfl (by simp) hK (by simp) hP ?_
 refine jJ Tryz.f23 1 [0,1,2,6] [vi 0] ?_
 refine sS Tryz.f23 9 [6] [] (fun _=>let qa:=vn (lo+dN zs j (hi-lo+1));[vn lo,pt g,vn hi,vn lo,vn (hi-lo),vn (hi-lo+1),vn (dN zs j (hi-lo+1)),qa,qa]) (fun _=>[(6,(bD 0 g (cL #[.slice a zs.length c,vn (pN zs (j+1))] 62)))]) (cR [[],[],[],[]]<|jW (fun ρ=>(((hi:Nat):Int)-((lo:Nat):Int))) (fun _=>(hi-lo)) (fun _=>((gZ (by omega)).trans (by omega)))<|jW (fun ρ=>(((hi-lo:Nat):Int)+1)) (fun _=>(hi-lo+1)) (fun _=>((gZ (by omega)).trans (by omega)))<|cX (qW [0] (fun _ _ w hG hK=>next_any g a c zs j (hi-lo+1) (by omega) hz w hK (hG.pK [0] (fun _ hF=>⟨hF.1,trivial⟩))))<|jW (fun ρ=>(((lo:Nat):Int)+((dN zs j (hi-lo+1):Nat):Int))) (fun _=>(lo+dN zs j (hi-lo+1))) (fun _=>((gZ (by have:=xBP zs j (n:=hi-lo+1) (by omega);omega)).trans (by omega)))<|jE [[]]) (fun _=>?_)
 refine aF ?_
 exact mR (v:=(vn (lo+dN zs j (hi-lo+1)))) (fun _ hS=>⟨rfl,hS.below,hS.knows [1]⟩)
theorem msecret_any (g:Nat) (a:Option Addr) (c:Nat) (zs:List Int) (j:Nat) (hz:Z64 zs) (w0:World) (hK:Knows [(g,(cL #[.slice a zs.length c,vn (pN zs j)] 62))] w0) (hP:dL (fun b=>b∈([(g,(cL #[.slice a zs.length c,vn (pN zs j)] 62))]:List (Nat × Obj)).map (·.1)) (fun w=>Is w .i64 a c zs∧True) w0):Calls Tryz.prog 65 #[pt g] w0 (fun ε w'=>ε=.returned (U (xP zs j))∧nN (fun b=>b∈([(g,(cL #[.slice a zs.length c,vn (pN zs j)] 62))]:List (Nat × Obj)).map (·.1)) w0 w'∧Knows [(g,(cL #[.slice a zs.length c,vn (pN zs (j+1))] 62))] w'):=by
 refine Calls.of_okW (n:=7) (F:=(fun w=>Is w .i64 a c zs∧True)) [(g,(cL #[.slice a zs.length c,vn (pN zs j)] 62))] Tryz.func65 rfl rfl rfl (by simp) hK (by simp) hP ?_
 refine sS Tryz.f65 1 [0,2] [] (fun ρ=>[pt (nb ρ 0)]) (fun ρ=>[(0,(nw ρ 0 (cL (cU 0) 54)))]) (jE [[]]) (fun ρ1=>?_)
 refine sS Tryz.f65 5 [2] [] (fun _=>[pt g,vn (1+dN zs j 4),vx (1+dN zs j 4),U (1+dN zs j 4),undef]) (fun _=>[(1,(bD 0 g (cL #[.slice a zs.length c,vn (pN zs (j+1))] 62))),(4,(bD 1 (nb ρ1 0) (cL (cU (1+dN zs j 4)) 54)))]) (cR [[]]<|cX (qW [0] (fun _ _ w hG hK=>range_any g a c zs j 1 4 (by decide) hz w hK (hG.pK [0] (fun _ hF=>⟨hF.1,trivial⟩))))<|cA (v:=fun ρ=>(.int .u64 (IntKind.u64.wrap ((1+dN zs j 4:Nat):Int)))) (fun _=>(vx (1+dN zs j 4))) (fun _=>congrArg (Value.int .u64) (u64N (by have h:=mkX_pos zs j;unfold xP at h;omega)))<|cC (fun _ w=>iE (1+dN zs j 4) w (by have h:=mkX_pos zs j;unfold xP at h;omega))<|jE [[1]]) (fun _=>?_)
 refine aF ?_
 exact mR (v:=(U (1+dN zs j 4))) (ps:=[1,1,1,1]) (fun _ hS=>⟨rfl,hS.below,hS.knows [1,0]⟩)
theorem mpublic_any (x:Nat) (hx:x<M) (w0:World):Calls Tryz.prog 66 #[U x] w0 (jR (U (dK x)) w0):=by
 refine Calls.of_ok (n:=11) (F:=(fun _=>True)) Tryz.func66 rfl rfl rfl (by simp) jT ?_
 refine sS Tryz.f66 2 [1,2] [] (fun ρ=>[pt (nb ρ 0),pt (nb ρ 1)]) (fun ρ=>[(0,(nw ρ 0 (cL (cU x) 54))),(1,(nw ρ 1 (cL (cU 0) 54)))]) (jE [[],[]]) (fun ρ1=>?_)
 refine sS Tryz.f66 8 [2,3] [0,1,1] (fun ρ=>[U x,.tuple #[U (dK x),vi (iW x)],.tuple #[U (dK x),vi (iW x)],U (dK x),vi (iW x),pt (nb ρ 5),undef,vi (iW x)]) (fun ρ=>[(5,(nw ρ 5 (cL (cU 0) 54))),(6,(bD 42 (nb ρ 5) (cL (cU (dK x)) 54)))]) (cR [[0]]<|cC (fun _ w=>rE x hx w)<|jE [[],[],[],[],[42],[]]) (fun _=>?_)
 refine sS Tryz.f66 2 [2] [1,0] (fun _=>[U (dK x),undef]) (fun _=>[(1,(bD 0 (nb ρ1 1) (cL (cU (dK x)) 54)))]) (jE [[1],[0]]) (fun _=>?_)
 refine aF ?_
 exact mR (v:=(U (dK x))) (fun _ hS=>⟨rfl,hS.bel⟩)
theorem mhash_any (g:Nat) (a:Option Addr) (c:Nat) (zs:List Int) (j:Nat) (hz:Z64 zs) (w0:World) (hK:Knows [(g,(cL #[.slice a zs.length c,vn (pN zs j)] 62))] w0) (hP:dL (fun b=>b∈([(g,(cL #[.slice a zs.length c,vn (pN zs j)] 62))]:List (Nat × Obj)).map (·.1)) (fun w=>Is w .i64 a c zs∧True) w0):Calls Tryz.prog 21 #[pt g] w0 (fun ε w'=>ε=.returned (.agg (hB (hs2 (dN zs j 5) (dN zs (j+1) 7))))∧nN (fun b=>b∈([(g,(cL #[.slice a zs.length c,vn (pN zs j)] 62))]:List (Nat × Obj)).map (·.1)) w0 w'∧Knows [(g,(cL #[.slice a zs.length c,vn (pN zs (j+2))] 62))] w'):=by
 refine Calls.of_okW (n:=10) (F:=(fun w=>Is w .i64 a c zs∧True)) [(g,(cL #[.slice a zs.length c,vn (pN zs j)] 62))] Tryz.func21 rfl rfl rfl (by simp) hK (by simp) hP ?_
 refine sS Tryz.f21 1 [0,2] [] (fun ρ=>[pt (nb ρ 0)]) (fun ρ=>[(0,(nw ρ 0 (cL (hB 0) 47)))]) (jE [[]]) (fun ρ1=>?_)
 refine sS Tryz.f21 8 [2] [] (fun _=>[pt g,vn (dN zs j 5),vy (dN zs j 5),pt g,vn (dN zs (j+1) 7),vy (dN zs (j+1) 7),.agg (hB (hs2 (dN zs j 5) (dN zs (j+1) 7))),undef]) (fun _=>[(1,(bD 0 g (cL #[.slice a zs.length c,vn (pN zs (j+1))] 62))),(4,(bD 0 g (cL #[.slice a zs.length c,vn (pN zs (j+2))] 62))),(7,(bD 1 (nb ρ1 0) (cL (hB (hs2 (dN zs j 5) (dN zs (j+1) 7))) 47)))]) (cR [[]]<|cX (qW [0] (fun _ _ w hG hK=>next_any g a c zs j 5 (by decide) hz w hK (hG.pK [0] (fun _ hF=>⟨hF.1,trivial⟩))))<|cA (v:=fun ρ=>(.int .u8 (IntKind.u8.wrap ((dN zs j 5:Nat):Int)))) (fun _=>(vy (dN zs j 5))) (fun _=>congrArg (Value.int .u8) (u8N (Nat.lt_of_lt_of_le (xBP zs j (by decide)) (by decide))))<|cR [[]]<|cX (qW [0] (fun _ _ w hG hK=>next_any g a c zs (j+1) 7 (by decide) hz w hK (hG.pK [0] (fun _ hF=>⟨hF.1,trivial⟩))))<|cA (v:=fun ρ=>(.int .u8 (IntKind.u8.wrap ((dN zs (j+1) 7:Nat):Int)))) (fun _=>(vy (dN zs (j+1) 7))) (fun _=>congrArg (Value.int .u8) (u8N (Nat.lt_of_lt_of_le (xBP zs (j+1) (by decide)) (by decide))))<|cA (v:=fun ρ=>(.agg #[vy (dN zs j 5),.int .u8 0,.int .u8 0,.int .u8 0,.int .u8 0,.int .u8 0,.int .u8 0,.int .u8 0,.int .u8 0,.int .u8 0,.int .u8 0,.int .u8 0,.int .u8 0,.int .u8 0,.int .u8 0,.int .u8 0,.int .u8 0,.int .u8 0,.int .u8 0,.int .u8 0,.int .u8 0,.int .u8 0,.int .u8 0,.int .u8 0,.int .u8 0,.int .u8 0,.int .u8 0,.int .u8 0,.int .u8 0,.int .u8 0,.int .u8 0,vy (dN zs (j+1) 7)])) (fun _=>(.agg (hB (hs2 (dN zs j 5) (dN zs (j+1) 7))))) (fun _=>hs2_agg (Nat.lt_of_lt_of_le (xBP zs j (by decide)) (by decide)) (Nat.lt_of_lt_of_le (xBP zs (j+1) (by decide)) (by decide)))<|jE [[1]]) (fun _=>?_)
 refine aF ?_
 exact mR (v:=(.agg (hB (hs2 (dN zs j 5) (dN zs (j+1) 7))))) (ps:=[1,1,1,1,1,1,1,1,1,1,1,1,1,1,1,1,1,1,1,1,1,1,1,1,1,1,1,1,1,1,1,1]) (fun _ hS=>⟨rfl,hS.below,hS.knows [1,0]⟩)
theorem mkey_any (g:Nat) (a:Option Addr) (c:Nat) (zs:List Int) (j:Nat) (pv:Bool) (hz:Z64 zs) (w0:World) (hK:Knows [(g,(cL #[.slice a zs.length c,vn (pN zs j)] 62))] w0) (hP:dL (fun b=>b∈([(g,(cL #[.slice a zs.length c,vn (pN zs j)] 62))]:List (Nat × Obj)).map (·.1)) (fun w=>Is w .i64 a c zs∧True) w0):Calls Tryz.prog 37 #[pt g,.bool pv] w0 (fun ε w'=>ε=.returned (.agg (kY (mkK zs j pv)))∧nN (fun b=>b∈([(g,(cL #[.slice a zs.length c,vn (pN zs j)] 62))]:List (Nat × Obj)).map (·.1)) w0 w'∧Knows [(g,(cL #[.slice a zs.length c,vn (pN zs (j+6))] 62))] w'):=by
 refine Calls.of_okW (n:=26) (F:=(fun w=>Is w .i64 a c zs∧True)) [(g,(cL #[.slice a zs.length c,vn (pN zs j)] 62))] Tryz.func37 rfl rfl rfl (by simp) hK (by simp) hP ?_
 refine sS Tryz.f37 1 [0,1,4] [] (fun ρ=>[pt (nb ρ 0)]) (fun ρ=>[(0,(nw ρ 0 (cL (kC 0 0 0 0 0 0) 56)))]) (jE [[]]) (fun ρ1=>?_)
 refine sS Tryz.f37 4 [0,1,4,5] [] (fun ρ=>[pt g,U (xP zs j),pt (nb ρ 2),undef]) (fun ρ=>[(1,(bD 0 g (cL #[.slice a zs.length c,vn (pN zs (j+1))] 62))),(2,(nw ρ 2 (cL (cU 0) 54))),(3,(bD 18 (nb ρ 2) (cL (cU (xP zs j)) 54)))]) (cR [[]]<|cX (qW [0] (fun _ _ w hG hK=>msecret_any g a c zs j  hz w hK (hG.pK [0] (fun _ hF=>⟨hF.1,trivial⟩))))<|jE [[],[18]]) (fun _=>?_)
 refine sS Tryz.f37 15 [1,4,5,6] [] (fun ρ=>[U (xP zs j),U (dK (xP zs j)),pt g,.agg (hB (hs2 (dN zs (j+1) 5) (dN zs (j+2) 7))),pt g,vn (dN zs (j+3) 3),pt g,vn (dN zs (j+4) 5),vu (dN zs (j+4) 5),pt g,vn (dN zs (j+5) 5),vu (dN zs (j+5) 5),.agg (kC 0 (dK (xP zs j)) (hs2 (dN zs (j+1) 5) (dN zs (j+2) 7)) ((dN zs (j+3) 3:Nat):Int) ((dN zs (j+4) 5:Nat):Int) ((dN zs (j+5) 5:Nat):Int)),pt (nb ρ 13),undef]) (fun ρ=>[(3,(bD 0 g (cL #[.slice a zs.length c,vn (pN zs (j+3))] 62))),(5,(bD 0 g (cL #[.slice a zs.length c,vn (pN zs (j+4))] 62))),(7,(bD 0 g (cL #[.slice a zs.length c,vn (pN zs (j+5))] 62))),(10,(bD 0 g (cL #[.slice a zs.length c,vn (pN zs (j+6))] 62))),(13,(nw ρ 13 (cL (kC 0 0 0 0 0 0) 56))),(14,(bD 107 (nb ρ 13) (cL (kC 0 (dK (xP zs j)) (hs2 (dN zs (j+1) 5) (dN zs (j+2) 7)) ((dN zs (j+3) 3:Nat):Int) ((dN zs (j+4) 5:Nat):Int) ((dN zs (j+5) 5:Nat):Int)) 56)))]) (cR [[2]]<|cC (f:=66) (args:=fun ρ=> #[U (xP zs j)]) (v:=fun ρ=>(U (dK (xP zs j)))) (fun _ w=>(fun w=>mpublic_any (xP zs j) (mkX_lt _ _) w) w)<|cR [[]]<|cX (qW [0] (fun _ _ w hG hK=>mhash_any g a c zs (j+1)  hz w hK (hG.pK [0] (fun _ hF=>⟨hF.1,trivial⟩))))<|cR [[]]<|cX (qW [0] (fun _ _ w hG hK=>next_any g a c zs (j+3) 3 (by decide) hz w hK (hG.pK [0] (fun _ hF=>⟨hF.1,trivial⟩))))<|cR [[]]<|cX (qW [0] (fun _ _ w hG hK=>next_any g a c zs (j+4) 5 (by decide) hz w hK (hG.pK [0] (fun _ hF=>⟨hF.1,trivial⟩))))<|cA (v:=fun ρ=>(.int .u32 (IntKind.u32.wrap ((dN zs (j+4) 5:Nat):Int)))) (fun _=>(vu (dN zs (j+4) 5))) (fun _=>jN (u32N (Nat.lt_of_lt_of_le (xBP zs (j+4) (by decide)) (by decide))))<|cR [[]]<|cX (qW [0] (fun _ _ w hG hK=>next_any g a c zs (j+5) 5 (by decide) hz w hK (hG.pK [0] (fun _ hF=>⟨hF.1,trivial⟩))))<|cA (v:=fun ρ=>(.int .u32 (IntKind.u32.wrap ((dN zs (j+5) 5:Nat):Int)))) (fun _=>(vu (dN zs (j+5) 5))) (fun _=>jN (u32N (Nat.lt_of_lt_of_le (xBP zs (j+5) (by decide)) (by decide))))<|jE [[],[],[107]]) (fun ρ3=>?_)
 refine aB (jJ Tryz.f37 1 [4,5,6,22] [.bool pv] ?_)
 refine oC pv (fun hb1=>?_) (fun hb1=>?_)
 ·
  rw [hb1]
  refine rS Tryz.f37 3 [4,6] [1,1,0,1] (fun _=>[U (xP zs j),pt (nb ρ3 13),undef]) (fun _=>[(2,(bD 3 (nb ρ3 13) (cL (kC (xP zs j) (dK (xP zs j)) (hs2 (dN zs (j+1) 5) (dN zs (j+2) 7)) ((dN zs (j+3) 3:Nat):Int) ((dN zs (j+4) 5:Nat):Int) ((dN zs (j+5) 5:Nat):Int)) 56)))]) (jE [[2],[],[3]]) (fun _=>?_)
  refine aA ?_
  refine sS Tryz.f37 2 [4] [1,1,0] (fun _=>[.agg (kC (xP zs j) (dK (xP zs j)) (hs2 (dN zs (j+1) 5) (dN zs (j+2) 7)) ((dN zs (j+3) 3:Nat):Int) ((dN zs (j+4) 5:Nat):Int) ((dN zs (j+5) 5:Nat):Int)),undef]) (fun _=>[(1,(bD 1 (nb ρ1 0) (cL (kC (xP zs j) (dK (xP zs j)) (hs2 (dN zs (j+1) 5) (dN zs (j+2) 7)) ((dN zs (j+3) 3:Nat):Int) ((dN zs (j+4) 5:Nat):Int) ((dN zs (j+5) 5:Nat):Int)) 56)))]) (jE [[2],[1]]) (fun _=>?_)
  refine aF ?_
  exact mR (v:=(.agg (kC (xP zs j) (dK (xP zs j)) (hs2 (dN zs (j+1) 5) (dN zs (j+2) 7)) ((dN zs (j+3) 3:Nat):Int) ((dN zs (j+4) 5:Nat):Int) ((dN zs (j+5) 5:Nat):Int)))) (ps:=[1,1,1,1,1,1,1,1,1,1,1,1,1,1,1,1,1,1,1,1,1,1,1,1,1,1,1,1,1,1,1,1,1,1,1,1,1,1,1,1,1,1,1]) (fun _ hS=>⟨rfl,hS.below,hS.knows [1,0]⟩)
 rw [hb1]
 refine aG (aA ?_)
 refine sS Tryz.f37 2 [4] [1,1,0,0] (fun _=>[.agg (kC 0 (dK (xP zs j)) (hs2 (dN zs (j+1) 5) (dN zs (j+2) 7)) ((dN zs (j+3) 3:Nat):Int) ((dN zs (j+4) 5:Nat):Int) ((dN zs (j+5) 5:Nat):Int)),undef]) (fun _=>[(1,(bD 1 (nb ρ1 0) (cL (kC 0 (dK (xP zs j)) (hs2 (dN zs (j+1) 5) (dN zs (j+2) 7)) ((dN zs (j+3) 3:Nat):Int) ((dN zs (j+4) 5:Nat):Int) ((dN zs (j+5) 5:Nat):Int)) 56)))]) (jE [[3],[1]]) (fun _=>?_)
 refine aF ?_
 exact mR (v:=(.agg (kC 0 (dK (xP zs j)) (hs2 (dN zs (j+1) 5) (dN zs (j+2) 7)) ((dN zs (j+3) 3:Nat):Int) ((dN zs (j+4) 5:Nat):Int) ((dN zs (j+5) 5:Nat):Int)))) (ps:=[1,1,1,1,1,1,1,1,1,1,1,1,1,1,1,1,1,1,1,1,1,1,1,1,1,1,1,1,1,1,1,1,1,1,1,1,1,1,1,1,1,1,1]) (fun _ hS=>⟨rfl,hS.below,hS.knows [1,0]⟩)
theorem mnew_any (a:Option Addr) (c:Nat) (zs:List Int) (w0:World) (hf0:Is w0 .i64 a c zs):Calls Tryz.prog 8 #[.slice a zs.length c] w0 (fun ε w'=>∃ g,ε=.returned (pt g)∧jG w0 w'∧w0.heap.size≤g∧w'.heap[g]? = some (cL #[.slice a zs.length c,vn (pN zs 0)] 62)):=by
 refine Calls.of_ok (n:=6) (F:=(fun w=>Is w .i64 a c zs∧True)) Tryz.func8 rfl rfl rfl (by simp) (hf0.pers0.and cO) ?_
 refine jJ Tryz.f8 1 [0,2] [.pointer none] ?_
 refine sS Tryz.f8 4 [2] [] (fun ρ=>[.slice a zs.length c,.agg #[.slice a zs.length c,vi 0],pt (nb ρ 2),pt (nb ρ 2)]) (fun ρ=>[(2,(nw ρ 2 (cL #[.slice a zs.length c,vi 0] 62)))]) (jE [[],[],[],[]]) (fun ρ2=>?_)
 refine aF (mD [(2,(pt (nb ρ2 2)))] [(nb ρ2 2,(cL #[.slice a zs.length c,vi 0] 62))] ?_)
 exact mR (v:=(pt (nb ρ2 2))) (fun _ hS=>⟨nb ρ2 2,rfl,hS.bel,(hS.newb (.head _)).1,(hS.newb (.head _)).2.trans (by rw [pN_zero];rfl)⟩)
theorem extend_any (a:Option Addr) (c:Nat) (B:List UInt8) (a2:Option Addr) (c2:Nat) (S:List UInt8) (hl:B.length+S.length≤140737488351232) (w0:World) (hf0:Bs w0 a c B) (hf1:Bs w0 a2 c2 S):Calls Tryz.prog 135 #[.slice a B.length c,.slice a2 S.length c2] w0 (fun ε w'=>∃ α κ,ε=.returned (.slice α (B++S).length κ)∧jG w0 w'∧Fs w0 w' α κ (B++S)):=by
 refine Calls.of_ok (n:=18) (F:=(fun w=>Bs w a c B∧Bs w a2 c2 S∧True)) Tryz.func135 rfl rfl rfl (by simp) (hf0.pers0.and (hf1.pers0.and cO)) ?_
 refine jJ Tryz.f135 1 [0,1,4] [vz] ?_
 refine sS Tryz.f135 7 [0,1,4,5] [] (fun ρ=>let qa:=vs (nb ρ 5) ([]:List UInt8).length (B.length+S.length);[.slice a B.length c,vn B.length,.slice a2 S.length c2,vn S.length,vn (B.length+S.length),qa,qa]) (fun ρ=>[(5,(nw ρ 5 (cL (zB (B.length+S.length)) 5)))]) (cR [[],[],[],[]]<|jW (fun ρ=>(((B.length:Nat):Int)+((S.length:Nat):Int))) (fun _=>(B.length+S.length)) (fun _=>(aW B.length S.length (by omega)))<|cX (uB _ (fun _=>do pure (Next.value (← Instr.makeSlice 35 (vi 0) (vn (B.length+S.length))))) (fun _ ζ=>(vs (ζ.headD 0) ([]:List UInt8).length (B.length+S.length))) (fun _ _=>(cL (zB (B.length+S.length)) 5)) (fun _ _=>(by kernel_rfl)) (fun _=>(by kernel_rfl)) (fun _ _=>trivial) (fun _ _ w _=>mM Tryz.underlying35 nH ([]:List UInt8) (rfl) (rfl) (Nat.zero_le _) hl w))<|jE [[]]) (fun ρ2=>?_)
 refine sS Tryz.f135 4 [1,4,5] [] (fun _=>let qa:=vs (nb ρ2 5) (([]:List UInt8)++B).length (B.length+S.length);[vs (nb ρ2 5) ([]:List UInt8).length (B.length+S.length),.slice a B.length c,qa,qa]) (fun _=>[(2,(bD 0 (nb ρ2 5) (cL (inpl (zB (B.length+S.length)) ([]:List UInt8).length (bs B)) 5)))]) (cR [[],[]]<|cX (o9 _ 0 (fun _=>do pure (Next.value (← Builtin.append_ #[35,35] 35 #[vs (nb ρ2 5) ([]:List UInt8).length (B.length+S.length),.slice a B.length c]))) (fun _=>nb ρ2 5) (fun _=>(cL (zB (B.length+S.length)) 5)) (fun _=>(cL (inpl (zB (B.length+S.length)) ([]:List UInt8).length (bs B)) 5)) (fun _=>(vs (nb ρ2 5) (([]:List UInt8)++B).length (B.length+S.length))) (fun _=>(by kernel_rfl)) (fun _=>(by kernel_rfl)) (fun _=>(by kernel_rfl)) (fun _=>(by kernel_rfl)) (fun _ _=>trivial) (fun _ _ _ hG hg=>kD Tryz.underlying35 nH hg (Bs.src (tx:=35) Tryz.underlying35 hG.fn.1) (oD _) (by simp only [List.length_nil];omega)))<|jE [[]]) (fun _=>?_)
 refine sS Tryz.f135 4 [4] [] (fun _=>let qa:=vs (nb ρ2 5) ((([]:List UInt8)++B)++S).length (B.length+S.length);[vs (nb ρ2 5) (([]:List UInt8)++B).length (B.length+S.length),.slice a2 S.length c2,qa,qa]) (fun _=>[(2,(bD 0 (nb ρ2 5) (cL (inpl (inpl (zB (B.length+S.length)) ([]:List UInt8).length (bs B)) (([]:List UInt8)++B).length (bs S)) 5)))]) (cR [[],[]]<|cX (o9 _ 0 (fun _=>do pure (Next.value (← Builtin.append_ #[35,35] 35 #[vs (nb ρ2 5) (([]:List UInt8)++B).length (B.length+S.length),.slice a2 S.length c2]))) (fun _=>nb ρ2 5) (fun _=>(cL (inpl (zB (B.length+S.length)) ([]:List UInt8).length (bs B)) 5)) (fun _=>(cL (inpl (inpl (zB (B.length+S.length)) ([]:List UInt8).length (bs B)) (([]:List UInt8)++B).length (bs S)) 5)) (fun _=>(vs (nb ρ2 5) ((([]:List UInt8)++B)++S).length (B.length+S.length))) (fun _=>(by kernel_rfl)) (fun _=>(by kernel_rfl)) (fun _=>(by kernel_rfl)) (fun _=>(by kernel_rfl)) (fun _ _=>trivial) (fun _ _ _ hG hg=>kD Tryz.underlying35 nH hg (Bs.src (tx:=35) Tryz.underlying35 hG.fn.2.1) ((lG _ _ _ (room_le (oD _) (by simp only [List.length_nil];omega))).trans (oD _)) (Nat.le_refl _)))<|jE [[]]) (fun _=>?_)
 refine aF (mD [(4,(vs (nb ρ2 5) ((([]:List UInt8)++B)++S).length (B.length+S.length)))] [(nb ρ2 5,(cL (inpl (inpl (zB (B.length+S.length)) ([]:List UInt8).length (bs B)) (([]:List UInt8)++B).length (bs S)) 5))] ?_)
 exact mR (v:=(vs (nb ρ2 5) ((([]:List UInt8)++B)++S).length (B.length+S.length))) (fun _ hS=>⟨some ⟨nb ρ2 5,0,none⟩,B.length+S.length,congrArg Ending.returned (rfl),hS.bel,dU (rfl) (hS.fresh (.head _) (Hd.inpl (Hd.inpl (Hd.nil _) rfl) rfl) (oK (Nat.le_refl _)) (oK hl))⟩)
theorem lowest_any (n:Nat) (m:Nat) (hn:n<18446744073709551616) (hm:m≤8) (w0:World):Calls Tryz.prog 136 #[vx n,vn m] w0 (fun ε w'=>∃ α κ,ε=.returned (.slice α (leB n m).length κ)∧jG w0 w'∧Fs w0 w' α κ (leB n m)):=by
 refine Calls.of_ok (n:=23) (F:=(fun _=>True)) Tryz.func136 rfl rfl rfl (by simp) jT ?_
 refine jJ Tryz.f136 1 [0,1,4] [vz] ?_
 refine sS Tryz.f136 3 [0,1,4,5] [] (fun ρ=>let qa:=vs (nb ρ 1) (List.replicate m (0:UInt8)).length m;[vn m,qa,qa]) (fun ρ=>[(1,(nw ρ 1 (cL (zB m) 5)))]) (cR [[]]<|cX (uB _ (fun _=>do pure (Next.value (← Instr.makeSlice 35 (vn m) (vn m)))) (fun _ ζ=>(vs (ζ.headD 0) (List.replicate m (0:UInt8)).length m)) (fun _ _=>(cL (zB m) 5)) (fun _ _=>(by kernel_rfl)) (fun _=>(by kernel_rfl)) (fun _ _=>trivial) (fun _ _ w _=>mM Tryz.underlying35 nH (List.replicate m (0:UInt8)) ((rfl).trans (by rw [List.length_replicate])) (rfl) (by rw [List.length_replicate];exact Nat.le_refl _) (by omega) w))<|jE [[]]) (fun ρ2=>?_)
 refine aB (jJ Tryz.f136 2 [0,4,5,9,10] [vn m,vi 0] (aI ?_))
 refine oL (σ:=Nat) (fun i=>[(0,(vx n)),(4,vz),(5,(vs (nb ρ2 1) (List.replicate m (0:UInt8)).length m)),(9,(vn m)),(10,(vn i))]) (fun i=>[(nb ρ2 1,(cL (oZ n m i) 5))]) (fun i=>m-i)
   (fun i=>(i≤m)) 0 (Nat.zero_le m) [] ?_
 rintro i hi
 change Ok Tryz.prog _ _ 23 [(0,(vx n)),(4,vz),(5,(vs (nb ρ2 1) (List.replicate m (0:UInt8)).length m)),(9,(vn m)),(10,(vn i))] _ [(nb ρ2 1,(cL (oZ n m i) 5))] (fun _=>True)
 refine jJ Tryz.f136 1 [0,4,5,9,10,11] [.bool (decide (((i:Nat):Int)<((m:Nat):Int)))] (aB ?_)
 refine oC (decide (((i:Nat):Int)<((m:Nat):Int))) (fun hb1=>?_) (fun hb1=>?_)
 ·
  rw [hb1]
  have:=yT hb1
  refine aG (aA (aB (aI (jJ Tryz.f136 2 [0,4,5,6,9,10] [vn i,vn i] ?_))))
  refine rS Tryz.f136 9 [0,4,5,9,10] [] (fun _=>[vs (nb ρ2 1) (List.replicate m (0:UInt8)).length m,vn i,vx n,vn i,vn (8*i),vx (n / 2^(8*i)),vy (n / 256^i%256),jp (nb ρ2 1) i,undef]) (fun _=>[(8,(bD 0 (nb ρ2 1) (cL (oZ n m (i+1)) 5)))]) (cR [[],[],[],[]]<|jW (fun ρ=>(8*((i:Nat):Int))) (fun _=>(8*i)) (fun _=>(fQ 8 i (by have:=List.length_replicate (n:=m) (a:=(0:UInt8));omega)))<|cB (a:=fun ρ=>(vx n)) (b:=fun ρ=>(vn (8*i))) (v:=fun ρ=>(vx (n / 2^(8*i)))) .shr 52 (fun _ w=>gG (k:=.u64) hn w)<|cA (fun _=>(vy (n / 256^i%256))) (fun _=>congrArg (Value.int .u8) (low_byte n i))<|cX (qS (fun _ w=>uI (g:=nb ρ2 1) (c:=m) (k:=.i64) Tryz.underlying35 nH (show ((i:Nat):Int)=((i:Nat):Int) from rfl) (show i<(List.replicate m (0:UInt8)).length from (by rw [List.length_replicate];have:=List.length_replicate (n:=m) (a:=(0:UInt8));omega)) w))<|cX (qG _ 0 5 (fun _=>nb ρ2 1) (fun _=>i) (fun _=>(oZ n m i)) (fun _=>(oZ n m (i+1))) 5 (fun _=>(vy (n / 256^i%256))) (fun _=>by kernel_rfl) Tryz.sizeOf5 (fun _=>rfl) (fun _=>(by rw [fill_size hi];have:=List.length_replicate (n:=m) (a:=(0:UInt8));omega)) (fun _=>(fill_set (by have:=List.length_replicate (n:=m) (a:=(0:UInt8));omega))))<|cN) (fun _=>?_)
  refine aJ (aA ?_)
  refine rS Tryz.f136 2 [0,4,5,9,10] [] (fun _=>[vn (i+1),vn (i+1)]) (fun _=>[]) (jW (fun ρ=>(((i:Nat):Int)+1)) (fun _=>(i+1)) (fun _=>(aW i 1 (by have:=List.length_replicate (n:=m) (a:=(0:UInt8));omega)))<|jE [[]]) (fun _=>?_)
  exact mN (i+1) (by show m-(i+1)<m-i;have:=List.length_replicate (n:=m) (a:=(0:UInt8));omega) (by show i+1≤m;have:=List.length_replicate (n:=m) (a:=(0:UInt8));omega) []
 rw [hb1]
 refine bF (aN (aN (aT (aA (jJ Tryz.f136 2 [4] (let qa:=vs (nb ρ2 1) (List.replicate m (0:UInt8)).length m;[qa,qa]) (aF (mD [(4,(vs (nb ρ2 1) (List.replicate m (0:UInt8)).length m))] [(nb ρ2 1,(cL (oZ n m i) 5))] ?_)))))))
 exact mR (v:=(vs (nb ρ2 1) (List.replicate m (0:UInt8)).length m)) (fun _ hS=>⟨some ⟨nb ρ2 1,0,none⟩,m,congrArg Ending.returned (by rw [List.length_replicate,eQ]),hS.bel,dU (fill_end (by have:=yF hb1;have:=List.length_replicate (n:=m) (a:=(0:UInt8));omega)) (hS.fresh (.head _) (Hd.all _) (Nat.le_of_eq (zX hi)) (by rw [zX hi];omega))⟩)
theorem yX (a:Option Addr) (c:Nat) (B:List UInt8) (n:Nat) (hn:n<4294967296) (hl:B.length+8≤140737488351232) (w0:World) (hf0:Bs w0 a c B):Calls Tryz.prog 99 #[.slice a B.length c,vu n] w0 (fun ε w'=>∃ α κ,ε=.returned (.slice α (B++leB n 4).length κ)∧jG w0 w'∧Fs w0 w' α κ (B++leB n 4)):=by
 refine Calls.of_ok (n:=10) (F:=(fun w=>Bs w a c B∧True)) Tryz.func99 rfl rfl rfl (by simp) (hf0.pers0.and cO) ?_
 refine jJ Tryz.f99 1 [0,1,4] [vz] ?_
 refine iZ Tryz.f99 6 [4] [] (fun ρ=>let qa:Value:=.slice (oa ρ 4) (B++(leB n 4)).length (nb ρ 4);[.slice a B.length c,vu n,vx n,.slice (oa ρ 3) (leB n 4).length (nb ρ 3),qa,qa]) (fun _=>[]) (fun ρ=>[(3,fun w=>Fs w0 w (oa ρ 3) (nb ρ 3) (leB n 4)),(4,fun w=>Fs w0 w (oa ρ 4) (nb ρ 4) (B++(leB n 4)))]) (fun ρ=>(fun w=>Bs w a c B∧Fs w0 w (oa ρ 3) (nb ρ 3) (leB n 4)∧Fs w0 w (oa ρ 4) (nb ρ 4) (B++(leB n 4))∧True)) (fun _=>True) (fun _ _ hF hf=>⟨⟨hF.1,hf 3,hf 4,trivial⟩,trivial⟩) (cR [[],[]]<|cA (v:=fun ρ=>(.int .u64 (IntKind.u64.wrap ((n:Nat):Int)))) (fun _=>(vx n)) (fun _=>congrArg (Value.int .u64) (u64N (by omega)))<|cX (qB (fun _ _ w _=>lowest_any n 4 (by omega) (by omega) w))<|cX (qB (fun ρ _ w hG=>extend_any a c B (oa ρ 3) (nb ρ 3) (leB n 4) (by simp only [eQ];omega) w hG.fn.1 (show Fs w0 w (oa ρ 3) (nb ρ 3) (leB n 4) from (hG.facts 3 rfl).now).1))<|jE [[]]) (fun ρ2 _=>?_)
 refine aF (mD [(4,(.slice (oa ρ2 4) (B++(leB n 4)).length (nb ρ2 4)))] [] ?_)
 exact mR (v:=(.slice (oa ρ2 4) (B++(leB n 4)).length (nb ρ2 4))) (fun _ hS=>⟨oa ρ2 4,nb ρ2 4,congrArg Ending.returned (rfl),hS.bel,dU (rfl) hS.facts.now.2.2.1⟩)
theorem wX (a:Option Addr) (c:Nat) (B:List UInt8) (h:Nat) (_hh:h<M) (hl:B.length+32≤140737488351232) (w0:World) (hf0:Bs w0 a c B):Calls Tryz.prog 100 #[.slice a B.length c,.agg (hB h)] w0 (fun ε w'=>∃ α κ,ε=.returned (.slice α (B++hL h).length κ)∧jG w0 w'∧Fs w0 w' α κ (B++hL h)):=by
 refine Calls.of_ok (n:=8) (F:=(fun w=>Bs w a c B∧True)) Tryz.func100 rfl rfl rfl (by simp) (hf0.pers0.and cO) ?_
 refine sS Tryz.f100 2 [0,3,4] [] (fun ρ=>[pt (nb ρ 0),vz]) (fun ρ=>[(0,(nw ρ 0 (cL (hB h) 47)))]) (jE [[],[]]) (fun ρ1=>?_)
 refine iZ Tryz.f100 4 [4] [0] (fun ρ=>let qa:Value:=.slice (oa ρ 2) (B++(hL h)).length (nb ρ 2);[.slice a B.length c,vs (nb ρ1 0) (hL h).length 32,qa,qa]) (fun _=>[]) (fun ρ=>[(2,fun w=>Fs w0 w (oa ρ 2) (nb ρ 2) (B++(hL h)))]) (fun ρ=>(fun w=>Bs w a c B∧Fs w0 w (oa ρ 2) (nb ρ 2) (B++(hL h))∧True)) (fun _=>True) (fun _ _ hF hf=>⟨⟨hF.1,hf 2,trivial⟩,trivial⟩) (cR [[],[]]<|cX (qB (fun _ _ w hG=>extend_any a c B (some ⟨nb ρ1 0,0,none⟩) 32 (hL h) (by simp only [aO];omega) w hG.fn.1 (Bs.of_hd (c:=32) (hG.kn (g:=nb ρ1 0) (o:=(cL (hB h) 47)) 0) (xBR _) (Nat.le_refl _) (Nat.le_of_ble_eq_true rfl))))<|jE [[]]) (fun ρ2 _=>?_)
 refine aF (mD [(4,(.slice (oa ρ2 2) (B++(hL h)).length (nb ρ2 2)))] [] ?_)
 exact mR (v:=(.slice (oa ρ2 2) (B++(hL h)).length (nb ρ2 2))) (fun _ hS=>⟨oa ρ2 2,nb ρ2 2,congrArg Ending.returned (rfl),hS.bel,dU (rfl) hS.facts.now.2.1⟩)
theorem room_any (a:Option Addr) (c:Nat) (B:List UInt8) (z:Int) (m:Nat) (hz: -9223372036854775808≤z∧z<9223372036854775808) (hBl:B.length≤140737488351232) (_hm:m≤32) (w0:World):Calls Tryz.prog 169 #[.slice a B.length c,vi z,vn m] w0 (jR (vi (rU B.length z m)) w0):=by
 refine Calls.of_ok (n:=21) (F:=(fun _=>True)) Tryz.func169 rfl rfl rfl (by simp) jT ?_
 refine jJ Tryz.f169 1 [0,1,2,6] [vi 0] (aB ?_)
 rcases Bool.eq_false_or_eq_true (decide (z<0)) with hb1 | hb1
 ·
  refine sS Tryz.f169 8 [0,1,2,6,14] [] (fun _=>[vi z,vT,vT,undef,undef,undef,undef,vT]) (fun _=>[]) (cR [[]]<|cA (fun _=>vT) (fun _=>congrArg Value.bool hb1)<|jE [[],[],[],[],[],[]]) (fun _=>?_)
  refine oY ?_
  refine jJ Tryz.f169 1 [0,1,2,6] [vi 5] (aF (aC ?_))
  exact mR (v:=(vi 5)) (fun _ hS=>⟨congrArg (fun x=>Ending.returned (vi x)) (rdE5 (by have:=yT hb1;omega)).symm,hS.bel⟩)
 refine sS Tryz.f169 8 [0,1,2,6,14] [] (fun _=>let qa:Value:=.bool (decide (((B.length:Nat):Int)<z));[vi z,vF,vF,vi z,.slice a B.length c,vn B.length,qa,qa]) (fun _=>[]) (cR [[]]<|cA (fun _=>vF) (fun _=>congrArg Value.bool hb1)<|jE [[],[],[],[],[],[]]) (fun _=>?_)
 refine oC (decide (((B.length:Nat):Int)<z)) (fun hb2=>?_) (fun hb2=>?_)
 ·
  rw [hb2]
  refine jJ Tryz.f169 1 [0,1,2,6] [vi 5] (aF (aC ?_))
  exact mR (v:=(vi 5)) (fun _ hS=>⟨congrArg (fun x=>Ending.returned (vi x)) (rdE5 (by have:=yF hb1;have:=yT hb2;omega)).symm,hS.bel⟩)
 rw [hb2]
 have:=yF hb2
 refine aG (aA (aB ?_))
 refine sS Tryz.f169 6 [6,20] [] (fun _=>[.slice a B.length c,vn B.length,vi z,vi (((B.length:Nat):Int)-z),vn m,.bool (decide ((((B.length:Nat):Int)-z)<((m:Nat):Int)))]) (fun _=>[]) (cR [[],[],[]]<|jU (fun ρ=>(((B.length:Nat):Int)-z)) (fun _=>(((B.length:Nat):Int)-z)) (fun _=>(gZ (by have:=yF hb1;omega)))<|jE [[],[]]) (fun _=>?_)
 refine oC (decide ((((B.length:Nat):Int)-z)<((m:Nat):Int))) (fun hb3=>?_) (fun hb3=>?_)
 ·
  rw [hb3]
  refine jJ Tryz.f169 1 [6] [vi 1] (aF (aC ?_))
  exact mR (v:=(vi 1)) (fun _ hS=>⟨congrArg (fun x=>Ending.returned (vi x)) (rdE1 (by have:=yF hb1;have:=yT hb3;omega) (by have:=yF hb1;have:=yT hb3;omega)).symm,hS.bel⟩)
 rw [hb3]
 refine aG (aA (jJ Tryz.f169 1 [6] [vi 0] (aF ?_)))
 exact mR (v:=(vi 0)) (fun _ hS=>⟨congrArg (fun x=>Ending.returned (vi x)) (rdE0 (by have:=yF hb1;have:=yF hb3;omega) (by have:=yF hb1;have:=yF hb3;omega)).symm,hS.bel⟩)
theorem read32_any (a:Option Addr) (c:Nat) (B:List UInt8) (z:Int) (m:Nat) (hz: -9223372036854775808≤z∧z<9223372036854775808) (hBl:B.length≤140737488351232) (hm:8*m≤32) (w0:World) (hf0:Bs w0 a c B):Calls Tryz.prog 168 #[.slice a B.length c,vi z,vn m] w0 (jR (.tuple #[vu (uU B z m),vi (rdN B.length z m),vi (rU B.length z m)]) w0):=by
 refine Calls.of_ok (n:=40) (F:=(fun w=>Bs w a c B∧True)) Tryz.func168 rfl rfl rfl (by simp) (hf0.pers0.and cO) ?_
 refine jJ Tryz.f168 3 [0,1,2,6,7,8] [.int .u32 0,vi 0,vi 0] (aB ?_)
 refine sS Tryz.f168 5 [0,1,2,6,7,8,9] [] (fun _=>[.slice a B.length c,vi z,vn m,vi (rU B.length z m),vi (rU B.length z m)]) (fun _=>[]) (cR [[],[],[]]<|cC (fun _ w=>room_any a c B z m (by omega) hBl (by omega) w)<|jE [[]]) (fun _=>?_)
 refine jJ Tryz.f168 2 [0,1,2,6,7,8,9,17] [vi (rU B.length z m),.bool ((rU B.length z m) != 0)] ?_
 refine oC ((rU B.length z m) != 0) (fun hb1=>?_) (fun hb1=>?_)
 ·
  rw [hb1]
  refine jJ Tryz.f168 4 [0,1,2,6,7,8] [vi (rU B.length z m),.int .u32 0,vi 0,vi (rU B.length z m)] (aF (aC ?_))
  exact mR (v:=(.tuple #[.int .u32 0,vi 0,vi (rU B.length z m)])) (fun _ hS=>⟨congrArg Ending.returned (rdT_err rfl (xAU hb1)),hS.bel⟩)
 rw [hb1]
 refine aG (aA (jJ Tryz.f168 1 [0,1,2,6,7,8,10] [.int .u32 0] (aB (jJ Tryz.f168 2 [0,1,2,6,7,8,10,19,20] [vn m,vi 0] (aI ?_)))))
 refine oL (σ:=Nat) (fun i=>[(0,(.slice a B.length c)),(1,(vi z)),(2,(vn m)),(6,(.int .u32 0)),(7,(vi 0)),(8,(vi 0)),(10,(vu (leN B z.toNat i))),(19,(vn m)),(20,(vn i))]) (fun _=>[]) (fun i=>m-i)
   (fun i=>(i≤m)) 0 (Nat.zero_le m) [] ?_
 rintro i hi
 change Ok Tryz.prog _ _ 40 [(0,(.slice a B.length c)),(1,(vi z)),(2,(vn m)),(6,(.int .u32 0)),(7,(vi 0)),(8,(vi 0)),(10,(vu (leN B z.toNat i))),(19,(vn m)),(20,(vn i))] _ [] (fun w=>Bs w a c B∧True)
 refine jJ Tryz.f168 1 [0,1,2,6,7,8,10,19,20,21] [.bool (decide (((i:Nat):Int)<((m:Nat):Int)))] (aB ?_)
 refine oC (decide (((i:Nat):Int)<((m:Nat):Int))) (fun hb2=>?_) (fun hb2=>?_)
 ·
  rw [hb2]
  have:=yT hb2
  refine aG (aA (aB (aI (jJ Tryz.f168 2 [0,1,2,6,7,8,10,11,19,20] [vn i,vn i] ?_))))
  refine rS Tryz.f168 13 [0,1,2,6,7,8,10,19,20] [] (fun _=>let qa:=vu (leN B z.toNat (i+1));[vu (leN B z.toNat i),.slice a B.length c,vi z,vn i,vi (z+((i:Nat):Int)),.pointer (fK a (z.toNat+i)),vy (gB B (z.toNat+i)),vu (gB B (z.toNat+i)),vn i,vn (8*i),vu (gB B (z.toNat+i)*256^i),qa,qa]) (fun _=>[]) (cR [[],[],[],[]]<|jU (fun ρ=>(z+((i:Nat):Int))) (fun _=>(z+((i:Nat):Int))) (fun _=>(gZ (by have:=o5 hb1;have:=nZ (o5 hb1);omega)))<|cX (qF (fun _ _ _ hG=>uY (k:=.i64) Tryz.underlying35 nH hG.fn.1 rfl (show z+((i:Nat):Int)=((z.toNat+i:Nat):Int)∧z.toNat+i<B.length from ⟨(by have:=o5 hb1;have:=nZ (o5 hb1);omega),(by have:=o5 hb1;have:=nZ (o5 hb1);omega)⟩).1 (show z+((i:Nat):Int)=((z.toNat+i:Nat):Int)∧z.toNat+i<B.length from ⟨(by have:=o5 hb1;have:=nZ (o5 hb1);omega),(by have:=o5 hb1;have:=nZ (o5 hb1);omega)⟩).2))<|cX (qF (fun _ _ _ hG=>wH Tryz.isAgg5 hG.fn.1 (show z+((i:Nat):Int)=((z.toNat+i:Nat):Int)∧z.toNat+i<B.length from ⟨(by have:=o5 hb1;have:=nZ (o5 hb1);omega),(by have:=o5 hb1;have:=nZ (o5 hb1);omega)⟩).2))<|cA (v:=fun ρ=>(.int .u32 (IntKind.u32.wrap ((gB B (z.toNat+i):Nat):Int)))) (fun _=>(vu (gB B (z.toNat+i)))) (fun _=>jN (gB_in (k:=.u32) rfl (by decide) B (z.toNat+i)))<|cR [[]]<|jW (fun ρ=>(8*((i:Nat):Int))) (fun _=>(8*i)) (fun _=>(fQ 8 i (by have:=o5 hb1;have:=nZ (o5 hb1);omega)))<|cB (a:=fun ρ=>(vu (gB B (z.toNat+i)))) (b:=fun ρ=>(vn (8*i))) (v:=fun ρ=>(vu (gB B (z.toNat+i)*256^i))) .shl 45 (fun _ w=>run_shl8 (k:=.u32) rfl B (z.toNat+i) i (by show 8*(i+1)≤32;have:=o5 hb1;have:=nZ (o5 hb1);omega) w)<|cA (v:=fun ρ=>(.int .u32 (bits .or .u32 ((leN B z.toNat i:Nat):Int) ((gB B (z.toNat+i)*256^i:Nat):Int)))) (fun _=>(vu (leN B z.toNat (i+1)))) (fun _=>jN (or_leN (k:=.u32) rfl B z.toNat i (by show 8*(i+1)≤32;have:=o5 hb1;have:=nZ (o5 hb1);omega)))<|jE [[]]) (fun _=>?_)
  refine aJ (aA ?_)
  refine rS Tryz.f168 2 [0,1,2,6,7,8,10,19,20] [] (fun _=>[vn (i+1),vn (i+1)]) (fun _=>[]) (jW (fun ρ=>(((i:Nat):Int)+1)) (fun _=>(i+1)) (fun _=>(aW i 1 (by have:=o5 hb1;have:=nZ (o5 hb1);omega)))<|jE [[]]) (fun _=>?_)
  exact mN (i+1) (by show m-(i+1)<m-i;have:=o5 hb1;have:=nZ (o5 hb1);omega) (by show i+1≤m;have:=o5 hb1;have:=nZ (o5 hb1);omega) []
 rw [hb2]
 refine bF (aN (aN (aT (aA ?_))))
 refine sS Tryz.f168 7 [6,7,8] [] (fun _=>let qa:=vi (z+((m:Nat):Int));[vu (leN B z.toNat i),vi z,vn m,qa,vu (leN B z.toNat i),qa,vi 0]) (fun _=>[]) (cR [[],[],[]]<|jU (fun ρ=>(z+((m:Nat):Int))) (fun _=>(z+((m:Nat):Int))) (fun _=>(gZ (by have:=o5 hb1;have:=nZ (o5 hb1);have:=yF hb2;omega)))<|jE [[],[],[]]) (fun _=>?_)
 refine aF ?_
 exact mR (v:=(.tuple #[vu (leN B z.toNat i),vi (z+((m:Nat):Int)),vi 0])) (fun _ hS=>⟨congrArg Ending.returned (rdT_ok (o5 hb1) (by have:=o5 hb1;have:=nZ (o5 hb1);have:=yF hb2;omega)),hS.bel⟩)
theorem u32_any (a:Option Addr) (c:Nat) (B:List UInt8) (z:Int) (hz: -9223372036854775808≤z∧z<9223372036854775808) (hBl:B.length≤140737488351232) (w0:World) (hf0:Bs w0 a c B):Calls Tryz.prog 143 #[.slice a B.length c,vi z] w0 (jR (.tuple #[vu (uU B z 4),vi (rdN B.length z 4),vi (rU B.length z 4)]) w0):=by
 refine Calls.of_ok (n:=13) (F:=(fun w=>Bs w a c B∧True)) Tryz.func143 rfl rfl rfl (by simp) (hf0.pers0.and cO) ?_
 refine jJ Tryz.f143 3 [0,1,4,5,6] [.int .u32 0,vi 0,vi 0] ?_
 refine sS Tryz.f143 9 [4,5,6] [] (fun _=>[.slice a B.length c,vi z,.tuple #[vu (uU B z 4),vi (rdN B.length z 4),vi (rU B.length z 4)],vu (uU B z 4),vi (rdN B.length z 4),vi (rU B.length z 4),vu (uU B z 4),vi (rdN B.length z 4),vi (rU B.length z 4)]) (fun _=>[]) (cR [[],[]]<|cX (qC (fun _ _ w hG=>read32_any a c B z 4 (by omega) hBl (by decide) w hG.fn.1))<|jE [[],[],[],[],[],[]]) (fun _=>?_)
 refine aF ?_
 exact mR (v:=(.tuple #[vu (uU B z 4),vi (rdN B.length z 4),vi (rU B.length z 4)])) (fun _ hS=>⟨rfl,hS.bel⟩)
theorem hash_any (a:Option Addr) (c:Nat) (B:List UInt8) (z:Int) (hz: -9223372036854775808≤z∧z<9223372036854775808) (hBl:B.length≤140737488351232) (w0:World) (hf0:Bs w0 a c B):Calls Tryz.prog 144 #[.slice a B.length c,vi z] w0 (jR (.tuple #[.agg (hB (nM B z)),vi (rdN B.length z 32),vi (rU B.length z 32)]) w0):=by
 refine Calls.of_ok (n:=24) (F:=(fun w=>Bs w a c B∧True)) Tryz.func144 rfl rfl rfl (by simp) (hf0.pers0.and cO) ?_
 refine sS Tryz.f144 3 [0,1,4,5,6] [] (fun ρ=>[pt (nb ρ 0),vi 0,vi 0]) (fun ρ=>[(0,(nw ρ 0 (cL (hB 0) 47)))]) (jE [[],[],[]]) (fun ρ1=>?_)
 refine sS Tryz.f144 1 [0,1,4,5,6,7] [] (fun ρ=>[pt (nb ρ 0)]) (fun ρ=>[(0,(nw ρ 0 (cL (hB 0) 47)))]) (jE [[]]) (fun ρ2=>?_)
 refine aB ?_
 refine sS Tryz.f144 4 [0,1,4,5,6,7,8] [] (fun _=>[.slice a B.length c,vi z,vi (rU B.length z 32),vi (rU B.length z 32)]) (fun _=>[]) (cR [[],[]]<|cC (fun _ w=>room_any a c B z 32 (by omega) hBl (by omega) w)<|jE [[]]) (fun _=>?_)
 refine jJ Tryz.f144 2 [0,1,4,5,6,7,8,13] [vi (rU B.length z 32),.bool ((rU B.length z 32) != 0)] ?_
 refine oC ((rU B.length z 32) != 0) (fun hb1=>?_) (fun hb1=>?_)
 ·
  rw [hb1]
  refine sS Tryz.f144 5 [0,1,4,5,6,7] [] (fun _=>[.agg (hB 0),vi (rU B.length z 32),undef,vi 0,vi (rU B.length z 32)]) (fun _=>[(2,(bD 0 (nb ρ1 0) (cL (hB 0) 47)))]) (jE [[],[],[0],[],[]]) (fun _=>?_)
  refine aF (aC ?_)
  exact mR (v:=(.tuple #[.agg (hB 0),vi 0,vi (rU B.length z 32)])) (fun _ hS=>⟨congrArg Ending.returned (hs_err rfl (xAU hb1)),hS.bel⟩)
 rw [hb1]
 refine aG (aA ?_)
 refine sDf Tryz.f144 [0,0,0,6,15] 5 [1,4,5,6,7] [] (fun _=>[vs (nb ρ2 0) (hL 0).length 32,.slice a B.length c,vi z,.slice (uF a z.toNat c) (mid B z.toNat B.length).length (c-z.toNat),vn (Nat.min (mid B z.toNat B.length).length 32)]) (fun _=>[(4,(bD 1 (nb ρ2 0) (cL (hB (nB ((mid B z.toNat B.length).take 32))) 47)))]) (fun _=>[(3,fun w=>Bs w (uF a z.toNat c) (c-z.toNat) (mid B z.toNat B.length))]) (fun _=>(fun w=>Bs w a c B∧Bs w (uF a z.toNat c) (c-z.toNat) (mid B z.toNat B.length)∧True)) (fun _=>True) (fun _ _ hF hf=>⟨⟨hF.1,hf 3,trivial⟩,trivial⟩) (cR [[],[],[]]<|cX (jF (fun _=>Instr.sliceAt 35 (.slice a B.length c) (some (vi z)) none none) (fun _=>(.slice (uF a z.toNat c) (mid B z.toNat B.length).length (c-z.toNat))) (fun _ _ _ hG=>vH (l:=z.toNat) (k:=B.length) Tryz.underlying35 nH hG.fn.1 rfl (Or.inr (congrArg (fun z=>some (Value.int .i64 z)) (by have:=o5 hb1;have:=nZ (o5 hb1);omega))) (Or.inl ⟨rfl,rfl⟩) (by have:=o5 hb1;have:=nZ (o5 hb1);omega) (Nat.le_refl _)) (fun _ _ w hG=>hG.facts0.mono (fun _ hF=>hF.1.mid (by have:=o5 hb1;have:=nZ (o5 hb1);omega) (Nat.le_refl _))))<|cX (o9 _ 1 (fun _=>do pure (Next.value (← Builtin.copy_ #[35,35] 3 #[vs (nb ρ2 0) 32 32,.slice (uF a z.toNat c) (mid B z.toNat B.length).length (c-z.toNat)]))) (fun _=>nb ρ2 0) (fun _=>(cL (hB 0) 47)) (fun _=>(cL (hB (nB ((mid B z.toNat B.length).take 32))) 47)) (fun _=>(vn (Nat.min (mid B z.toNat B.length).length 32))) (fun _=>(by kernel_rfl)) (fun _=>(by kernel_rfl)) (fun _=>(by kernel_rfl)) (fun _=>(by kernel_rfl)) (fun _ _=>trivial) (fun _ _ w hG hg=>(by as_aux_lemma=>(rw [← copy_hash (by rw [kS _ _ _ (Nat.le_refl _)];have:=o5 hb1;have:=nZ (o5 hb1);omega)];exact copy_row Tryz.underlying35 nH hg (show Bs w (uF a z.toNat c) (c-z.toNat) (mid B z.toNat B.length) from (hG.facts 3 rfl).now) rfl (by rw [yV];exact Nat.le_refl _)))))<|cN) (fun _ _=>?_)
 refine sS Tryz.f144 6 [4,5,6] [1,0] (fun _=>[.agg (hB (nB ((mid B z.toNat B.length).take 32))),vi z,vi (z+32),undef,vi (z+32),vi 0]) (fun _=>[(3,(bD 0 (nb ρ1 0) (cL (hB (nB ((mid B z.toNat B.length).take 32))) 47)))]) (cR [[1],[]]<|jU (fun ρ=>(z+32)) (fun _=>(z+32)) (fun _=>(gZ (by have:=o5 hb1;have:=nZ (o5 hb1);omega)))<|jE [[0],[],[]]) (fun _=>?_)
 refine aF ?_
 exact mR (v:=(.tuple #[.agg (hB (nB ((mid B z.toNat B.length).take 32))),vi (z+32),vi 0])) (fun _ hS=>⟨congrArg Ending.returned (hs_ok (o5 hb1)),hS.bel⟩)
theorem kencode_any (k:Ky) (hk:k.Ok) (w0:World):Calls Tryz.prog 72 #[.agg (kY k)] w0 (fun ε w'=>∃ α κ,ε=.returned (.slice α (sJ k).length κ)∧jG w0 w'∧Fs w0 w' α κ (sJ k)):=by
 refine Calls.of_ok (n:=34) (F:=(fun _=>True)) Tryz.func72 rfl rfl rfl (by simp) jT ?_
 refine sS Tryz.f72 2 [1,2] [] (fun ρ=>[pt (nb ρ 0),vz]) (fun ρ=>[(0,(nw ρ 0 (cL (kY k) 56)))]) (jE [[],[]]) (fun ρ1=>?_)
 refine sD Tryz.f72 [0,1,0,4,15] 5 [1,2,3,4] [] (fun ρ=>[jp (nb ρ1 0) 4,U k.p,pt (nb ρ 2),.int .u8 0,undef]) (fun ρ=>[(2,(nw ρ 2 (cL (cU 0) 54))),(4,(bD 17 (nb ρ 2) (cL (cU k.p) 54)))]) (jE [[],[0],[],[],[17]]) (fun ρ2=>?_)
 refine aB ?_
 refine sS Tryz.f72 4 [1,2,3,4,11] [] (fun _=>[pt (nb ρ1 0),U k.s,U 0,.bool (!decide (k.s=0))]) (fun _=>[]) (cR [[],[0],[]]<|cB (a:=fun ρ=>(U k.s)) (b:=fun ρ=>(U 0)) (v:=fun ρ=>(.bool (!decide (k.s=0)))) .neq 54 (fun _ _=>neqU k.s 0 hk.s (by decide +kernel) _)<|cN) (fun _=>?_)
 refine oC (!decide (k.s=0)) (fun hb1=>?_) (fun hb1=>?_)
 ·
  rw [hb1]
  refine rD Tryz.f72 [0,1,0,7] 4 [1,2,3,4] [] (fun _=>[pt (nb ρ1 0),U k.s,.int .u8 1,undef]) (fun _=>[(3,(bD 1 (nb ρ2 2) (cL (cU k.s) 54)))]) (jE [[],[0],[],[1]]) (fun _=>?_)
  refine aA ?_
  refine iZ Tryz.f72 9 [1,2,4,5] [1,1,0] (fun ρ=>let qa:Value:=.slice (oa ρ 7) (([ob 1,ob (oH k.d)]:List UInt8)++leB k.i 4).length (nb ρ 7);[.int .u8 1,jp (nb ρ1 0) 40,vi k.d,.int .u8 (oH k.d),vs (nb ρ 4) ([ob 1,ob (oH k.d)]:List UInt8).length 2,jp (nb ρ1 0) 41,vu k.i,qa,qa]) (fun ρ=>[(4,(nw ρ 4 (cL #[.int .u8 1,.int .u8 (oH k.d)] 5)))]) (fun ρ=>[(7,fun w=>Fs w0 w (oa ρ 7) (nb ρ 7) (([ob 1,ob (oH k.d)]:List UInt8)++leB k.i 4))]) (fun ρ=>(fun w=>Fs w0 w (oa ρ 7) (nb ρ 7) (([ob 1,ob (oH k.d)]:List UInt8)++leB k.i 4)∧True)) (fun _=>True) (fun _ _ _ hf=>⟨⟨hf 7,trivial⟩,trivial⟩) (cR [[],[],[0]]<|cA (v:=fun ρ=>(.int .u8 (IntKind.u8.wrap k.d))) (fun _=>(.int .u8 (oH k.d))) (fun _=>congrArg (Value.int .u8) (rfl))<|cR [[],[],[0]]<|cX (qB (fun ρ _ w hG=>yX (some ⟨nb ρ 4,0,none⟩) 2 ([ob 1,ob (oH k.d)]:List UInt8) k.i (by have:=hk.i;have:=hk.n;omega) (by simp only [List.length_cons,List.length_nil];have:=hk.i;have:=hk.n;omega) w (Bs.of_hd (hG.kn (g:=nb ρ 4) (o:=(cL #[.int .u8 1,.int .u8 (oH k.d)] 5)) 34) (hd2 (by decide) (dpI_rng _)) (Nat.le_refl 2) (Nat.le_of_ble_eq_true rfl))))<|jE [[]]) (fun ρ5 _=>?_)
  refine iZ Tryz.f72 5 [1,2,4,5] [] (fun ρ=>let qa:Value:=.slice (oa ρ 3) ((([ob 1,ob (oH k.d)]:List UInt8)++leB k.i 4)++leB k.n 4).length (nb ρ 3);[.slice (oa ρ5 7) (([ob 1,ob (oH k.d)]:List UInt8)++leB k.i 4).length (nb ρ5 7),jp (nb ρ1 0) 42,vu k.n,qa,qa]) (fun _=>[]) (fun ρ=>[(3,fun w=>Fs w0 w (oa ρ 3) (nb ρ 3) ((([ob 1,ob (oH k.d)]:List UInt8)++leB k.i 4)++leB k.n 4))]) (fun ρ=>(fun w=>Fs w0 w (oa ρ5 7) (nb ρ5 7) (([ob 1,ob (oH k.d)]:List UInt8)++leB k.i 4)∧Fs w0 w (oa ρ 3) (nb ρ 3) ((([ob 1,ob (oH k.d)]:List UInt8)++leB k.i 4)++leB k.n 4)∧True)) (fun _=>True) (fun _ _ hF hf=>⟨⟨hF.1,hf 3,trivial⟩,trivial⟩) (cR [[],[],[0]]<|cX (qB (fun _ _ w hG=>yX (oa ρ5 7) (nb ρ5 7) (([ob 1,ob (oH k.d)]:List UInt8)++leB k.i 4) k.n (by have:=hk.i;have:=hk.n;omega) (by simp only [List.length_append,List.length_cons,List.length_nil,eQ];have:=hk.i;have:=hk.n;omega) w hG.fn.1.1))<|jE [[]]) (fun ρ6 _=>?_)
  refine iZ Tryz.f72 5 [2,4,5] [0,1] (fun ρ=>let qa:Value:=.slice (oa ρ 3) (((([ob 1,ob (oH k.d)]:List UInt8)++leB k.i 4)++leB k.n 4)++hL k.c).length (nb ρ 3);[.slice (oa ρ6 3) ((([ob 1,ob (oH k.d)]:List UInt8)++leB k.i 4)++leB k.n 4).length (nb ρ6 3),jp (nb ρ1 0) 8,.agg (hB k.c),qa,qa]) (fun _=>[]) (fun ρ=>[(3,fun w=>Fs w0 w (oa ρ 3) (nb ρ 3) (((([ob 1,ob (oH k.d)]:List UInt8)++leB k.i 4)++leB k.n 4)++hL k.c))]) (fun ρ=>(fun w=>Fs w0 w (oa ρ5 7) (nb ρ5 7) (([ob 1,ob (oH k.d)]:List UInt8)++leB k.i 4)∧Fs w0 w (oa ρ6 3) (nb ρ6 3) ((([ob 1,ob (oH k.d)]:List UInt8)++leB k.i 4)++leB k.n 4)∧Fs w0 w (oa ρ 3) (nb ρ 3) (((([ob 1,ob (oH k.d)]:List UInt8)++leB k.i 4)++leB k.n 4)++hL k.c)∧True)) (fun _=>True) (fun _ _ hF hf=>⟨⟨hF.1,hF.2.1,hf 3,trivial⟩,trivial⟩) (cR [[],[],[0]]<|cX (qB (fun _ _ w hG=>wX (oa ρ6 3) (nb ρ6 3) ((([ob 1,ob (oH k.d)]:List UInt8)++leB k.i 4)++leB k.n 4) k.c hk.c (by simp only [List.length_append,List.length_cons,List.length_nil,eQ];have:=hk.i;have:=hk.n;omega) w hG.fn.2.1.1))<|jE [[]]) (fun ρ7 _=>?_)
  refine lK [(2,vz),(4,(pt (nb ρ2 2))),(5,(.slice (oa ρ7 3) (((([ob 1,ob (oH k.d)]:List UInt8)++leB k.i 4)++leB k.n 4)++hL k.c).length (nb ρ7 3)))] [(nb ρ2 2,(cL (cU k.s) 54))] ?_
  refine iZ Tryz.f72 5 [2] [0] (fun ρ=>let qa:Value:=.slice (oa ρ 3) ((((([ob 1,ob (oH k.d)]:List UInt8)++leB k.i 4)++leB k.n 4)++hL k.c)++hL k.s).length (nb ρ 3);[.slice (oa ρ7 3) (((([ob 1,ob (oH k.d)]:List UInt8)++leB k.i 4)++leB k.n 4)++hL k.c).length (nb ρ7 3),U k.s,.agg (hB k.s),qa,qa]) (fun _=>[]) (fun ρ=>[(3,fun w=>Fs w0 w (oa ρ 3) (nb ρ 3) ((((([ob 1,ob (oH k.d)]:List UInt8)++leB k.i 4)++leB k.n 4)++hL k.c)++hL k.s))]) (fun ρ=>(fun w=>Fs w0 w (oa ρ5 7) (nb ρ5 7) (([ob 1,ob (oH k.d)]:List UInt8)++leB k.i 4)∧Fs w0 w (oa ρ6 3) (nb ρ6 3) ((([ob 1,ob (oH k.d)]:List UInt8)++leB k.i 4)++leB k.n 4)∧Fs w0 w (oa ρ7 3) (nb ρ7 3) (((([ob 1,ob (oH k.d)]:List UInt8)++leB k.i 4)++leB k.n 4)++hL k.c)∧Fs w0 w (oa ρ 3) (nb ρ 3) ((((([ob 1,ob (oH k.d)]:List UInt8)++leB k.i 4)++leB k.n 4)++hL k.c)++hL k.s)∧True)) (fun _=>True) (fun _ _ hF hf=>⟨⟨hF.1,hF.2.1,hF.2.2.1,hf 3,trivial⟩,trivial⟩) (cR [[],[0]]<|cC (fun _ w=>bytes_any k.s w)<|cX (qB (fun _ _ w hG=>wX (oa ρ7 3) (nb ρ7 3) (((([ob 1,ob (oH k.d)]:List UInt8)++leB k.i 4)++leB k.n 4)++hL k.c) k.s hk.s (by simp only [List.length_append,List.length_cons,List.length_nil,eQ,aO];have:=hk.i;have:=hk.n;omega) w hG.fn.2.2.1.1))<|jE [[]]) (fun ρ8 _=>?_)
  refine aF (mD [(2,(.slice (oa ρ8 3) ((((([ob 1,ob (oH k.d)]:List UInt8)++leB k.i 4)++leB k.n 4)++hL k.c)++hL k.s).length (nb ρ8 3)))] [] ?_)
  exact mR (v:=(.slice (oa ρ8 3) ((((([ob 1,ob (oH k.d)]:List UInt8)++leB k.i 4)++leB k.n 4)++hL k.c)++hL k.s).length (nb ρ8 3))) (fun _ hS=>⟨oa ρ8 3,nb ρ8 3,congrArg Ending.returned (by rw [← en_1 (dF hb1)]),hS.bel,dU (en_1 (dF hb1)) hS.facts.now.2.2.2.1⟩)
 rw [hb1]
 refine aG (aA ?_)
 refine iZ Tryz.f72 9 [1,2,4,5] [1,1,0] (fun ρ=>let qa:Value:=.slice (oa ρ 7) (([ob 0,ob (oH k.d)]:List UInt8)++leB k.i 4).length (nb ρ 7);[.int .u8 0,jp (nb ρ1 0) 40,vi k.d,.int .u8 (oH k.d),vs (nb ρ 4) ([ob 0,ob (oH k.d)]:List UInt8).length 2,jp (nb ρ1 0) 41,vu k.i,qa,qa]) (fun ρ=>[(4,(nw ρ 4 (cL #[.int .u8 0,.int .u8 (oH k.d)] 5)))]) (fun ρ=>[(7,fun w=>Fs w0 w (oa ρ 7) (nb ρ 7) (([ob 0,ob (oH k.d)]:List UInt8)++leB k.i 4))]) (fun ρ=>(fun w=>Fs w0 w (oa ρ 7) (nb ρ 7) (([ob 0,ob (oH k.d)]:List UInt8)++leB k.i 4)∧True)) (fun _=>True) (fun _ _ _ hf=>⟨⟨hf 7,trivial⟩,trivial⟩) (cR [[],[],[0]]<|cA (v:=fun ρ=>(.int .u8 (IntKind.u8.wrap k.d))) (fun _=>(.int .u8 (oH k.d))) (fun _=>congrArg (Value.int .u8) (rfl))<|cR [[],[],[0]]<|cX (qB (fun ρ _ w hG=>yX (some ⟨nb ρ 4,0,none⟩) 2 ([ob 0,ob (oH k.d)]:List UInt8) k.i (by have:=hk.i;have:=hk.n;omega) (by simp only [List.length_cons,List.length_nil];have:=hk.i;have:=hk.n;omega) w (Bs.of_hd (hG.kn (g:=nb ρ 4) (o:=(cL #[.int .u8 0,.int .u8 (oH k.d)] 5)) 34) (hd2 (by decide) (dpI_rng _)) (Nat.le_refl 2) (Nat.le_of_ble_eq_true rfl))))<|jE [[]]) (fun ρ9 _=>?_)
 refine iZ Tryz.f72 5 [1,2,4,5] [] (fun ρ=>let qa:Value:=.slice (oa ρ 3) ((([ob 0,ob (oH k.d)]:List UInt8)++leB k.i 4)++leB k.n 4).length (nb ρ 3);[.slice (oa ρ9 7) (([ob 0,ob (oH k.d)]:List UInt8)++leB k.i 4).length (nb ρ9 7),jp (nb ρ1 0) 42,vu k.n,qa,qa]) (fun _=>[]) (fun ρ=>[(3,fun w=>Fs w0 w (oa ρ 3) (nb ρ 3) ((([ob 0,ob (oH k.d)]:List UInt8)++leB k.i 4)++leB k.n 4))]) (fun ρ=>(fun w=>Fs w0 w (oa ρ9 7) (nb ρ9 7) (([ob 0,ob (oH k.d)]:List UInt8)++leB k.i 4)∧Fs w0 w (oa ρ 3) (nb ρ 3) ((([ob 0,ob (oH k.d)]:List UInt8)++leB k.i 4)++leB k.n 4)∧True)) (fun _=>True) (fun _ _ hF hf=>⟨⟨hF.1,hf 3,trivial⟩,trivial⟩) (cR [[],[],[0]]<|cX (qB (fun _ _ w hG=>yX (oa ρ9 7) (nb ρ9 7) (([ob 0,ob (oH k.d)]:List UInt8)++leB k.i 4) k.n (by have:=hk.i;have:=hk.n;omega) (by simp only [List.length_append,List.length_cons,List.length_nil,eQ];have:=hk.i;have:=hk.n;omega) w hG.fn.1.1))<|jE [[]]) (fun ρ10 _=>?_)
 refine iZ Tryz.f72 5 [2,4,5] [0,1] (fun ρ=>let qa:Value:=.slice (oa ρ 3) (((([ob 0,ob (oH k.d)]:List UInt8)++leB k.i 4)++leB k.n 4)++hL k.c).length (nb ρ 3);[.slice (oa ρ10 3) ((([ob 0,ob (oH k.d)]:List UInt8)++leB k.i 4)++leB k.n 4).length (nb ρ10 3),jp (nb ρ1 0) 8,.agg (hB k.c),qa,qa]) (fun _=>[]) (fun ρ=>[(3,fun w=>Fs w0 w (oa ρ 3) (nb ρ 3) (((([ob 0,ob (oH k.d)]:List UInt8)++leB k.i 4)++leB k.n 4)++hL k.c))]) (fun ρ=>(fun w=>Fs w0 w (oa ρ9 7) (nb ρ9 7) (([ob 0,ob (oH k.d)]:List UInt8)++leB k.i 4)∧Fs w0 w (oa ρ10 3) (nb ρ10 3) ((([ob 0,ob (oH k.d)]:List UInt8)++leB k.i 4)++leB k.n 4)∧Fs w0 w (oa ρ 3) (nb ρ 3) (((([ob 0,ob (oH k.d)]:List UInt8)++leB k.i 4)++leB k.n 4)++hL k.c)∧True)) (fun _=>True) (fun _ _ hF hf=>⟨⟨hF.1,hF.2.1,hf 3,trivial⟩,trivial⟩) (cR [[],[],[0]]<|cX (qB (fun _ _ w hG=>wX (oa ρ10 3) (nb ρ10 3) ((([ob 0,ob (oH k.d)]:List UInt8)++leB k.i 4)++leB k.n 4) k.c hk.c (by simp only [List.length_append,List.length_cons,List.length_nil,eQ];have:=hk.i;have:=hk.n;omega) w hG.fn.2.1.1))<|jE [[]]) (fun ρ11 _=>?_)
 refine iZ Tryz.f72 5 [2] [0] (fun ρ=>let qa:Value:=.slice (oa ρ 3) ((((([ob 0,ob (oH k.d)]:List UInt8)++leB k.i 4)++leB k.n 4)++hL k.c)++hL k.p).length (nb ρ 3);[.slice (oa ρ11 3) (((([ob 0,ob (oH k.d)]:List UInt8)++leB k.i 4)++leB k.n 4)++hL k.c).length (nb ρ11 3),U k.p,.agg (hB k.p),qa,qa]) (fun _=>[]) (fun ρ=>[(3,fun w=>Fs w0 w (oa ρ 3) (nb ρ 3) ((((([ob 0,ob (oH k.d)]:List UInt8)++leB k.i 4)++leB k.n 4)++hL k.c)++hL k.p))]) (fun ρ=>(fun w=>Fs w0 w (oa ρ9 7) (nb ρ9 7) (([ob 0,ob (oH k.d)]:List UInt8)++leB k.i 4)∧Fs w0 w (oa ρ10 3) (nb ρ10 3) ((([ob 0,ob (oH k.d)]:List UInt8)++leB k.i 4)++leB k.n 4)∧Fs w0 w (oa ρ11 3) (nb ρ11 3) (((([ob 0,ob (oH k.d)]:List UInt8)++leB k.i 4)++leB k.n 4)++hL k.c)∧Fs w0 w (oa ρ 3) (nb ρ 3) ((((([ob 0,ob (oH k.d)]:List UInt8)++leB k.i 4)++leB k.n 4)++hL k.c)++hL k.p)∧True)) (fun _=>True) (fun _ _ hF hf=>⟨⟨hF.1,hF.2.1,hF.2.2.1,hf 3,trivial⟩,trivial⟩) (cR [[],[0]]<|cC (fun _ w=>bytes_any k.p w)<|cX (qB (fun _ _ w hG=>wX (oa ρ11 3) (nb ρ11 3) (((([ob 0,ob (oH k.d)]:List UInt8)++leB k.i 4)++leB k.n 4)++hL k.c) k.p hk.p (by simp only [List.length_append,List.length_cons,List.length_nil,eQ,aO];have:=hk.i;have:=hk.n;omega) w hG.fn.2.2.1.1))<|jE [[]]) (fun ρ12 _=>?_)
 refine aF (mD [(2,(.slice (oa ρ12 3) ((((([ob 0,ob (oH k.d)]:List UInt8)++leB k.i 4)++leB k.n 4)++hL k.c)++hL k.p).length (nb ρ12 3)))] [] ?_)
 exact mR (v:=(.slice (oa ρ12 3) ((((([ob 0,ob (oH k.d)]:List UInt8)++leB k.i 4)++leB k.n 4)++hL k.c)++hL k.p).length (nb ρ12 3))) (fun _ hS=>⟨oa ρ12 3,nb ρ12 3,congrArg Ending.returned (by rw [← en_0 (aV hb1)]),hS.bel,dU (en_0 (aV hb1)) hS.facts.now.2.2.2.1⟩)
theorem kdecode_any (a:Option Addr) (c:Nat) (B:List UInt8) (w0:World) (hf0:Bs w0 a c B):Calls Tryz.prog 111 #[.slice a B.length c] w0 (jR (.tuple #[.agg (kY (iU B)),vi (kdE B)]) w0):=by
 refine Calls.of_ok (n:=84) (F:=(fun w=>Bs w a c B∧True)) Tryz.func111 rfl rfl rfl (by simp) (hf0.pers0.and cO) ?_
 have hBl:B.length≤140737488351232:=hf0.max
 refine sS Tryz.f111 2 [0,2,3] [] (fun ρ=>[pt (nb ρ 0),vi 0]) (fun ρ=>[(0,(nw ρ 0 (cL (kC 0 0 0 0 0 0) 56)))]) (jE [[],[]]) (fun ρ1=>?_)
 refine aB (jJ Tryz.f111 3 [0,2,3,13] [.slice a B.length c,vn B.length,.bool (((B.length:Nat):Int) != 74)] ?_)
 refine oC (((B.length:Nat):Int) != 74) (fun hb1=>?_) (fun hb1=>?_)
 ·
  rw [hb1]
  refine sS Tryz.f111 3 [0,2,3] [] (fun _=>[.agg (kC 0 0 0 0 0 0),undef,vi 8]) (fun _=>[(1,(bD 0 (nb ρ1 0) (cL (kC 0 0 0 0 0 0) 56)))]) (jE [[],[0],[]]) (fun _=>?_)
  refine aF (aC ?_)
  exact mR (v:=(.tuple #[.agg (kC 0 0 0 0 0 0),vi 8])) (fun _ hS=>⟨by rw [(dc_8 (len74n hb1)).1,(dc_8 (len74n hb1)).2];rfl,hS.bel⟩)
 rw [hb1]
 refine aG (aA (aB ?_))
 rcases Bool.eq_false_or_eq_true (decide (1<((gB B 0:Nat):Int))) with hb2 | hb2
 ·
  refine sS Tryz.f111 10 [0,2,3,24] [] (fun _=>[.slice a B.length c,.pointer (fK a 0),vy (gB B 0),vT,vT,undef,undef,undef,undef,vT]) (fun _=>[]) (cR [[]]<|cX (qF (fun _ _ _ hG=>uY (k:=.i64) Tryz.underlying35 nH hG.fn.1 rfl (show 0=((0:Nat):Int) from rfl) (show 0<B.length from (by have:=(qL hb1);omega))))<|cX (qF (fun _ _ _ hG=>wH Tryz.isAgg5 hG.fn.1 (show 0<B.length from (by have:=(qL hb1);omega))))<|cA (fun _=>vT) (fun _=>congrArg Value.bool hb2)<|jE [[],[],[],[],[],[]]) (fun _=>?_)
  refine oY ?_
  refine sS Tryz.f111 3 [0,2,3] [] (fun _=>[.agg (kC 0 0 0 0 0 0),undef,vi 5]) (fun _=>[(1,(bD 0 (nb ρ1 0) (cL (kC 0 0 0 0 0 0) 56)))]) (jE [[],[0],[]]) (fun _=>?_)
  refine aF (aC ?_)
  exact mR (v:=(.tuple #[.agg (kC 0 0 0 0 0 0),vi 5])) (fun _ hS=>⟨by rw [(dc_5 (qL hb1) (Or.inl (by have:=yT hb2;omega))).1,(dc_5 (qL hb1) (Or.inl (by have:=yT hb2;omega))).2];rfl,hS.bel⟩)
 refine sS Tryz.f111 10 [0,2,3,24] [] (fun _=>let qa:Value:=.bool (decide (8<((gB B 1:Nat):Int)));[.slice a B.length c,.pointer (fK a 0),vy (gB B 0),vF,vF,.slice a B.length c,.pointer (fK a 1),vy (gB B 1),qa,qa]) (fun _=>[]) (cR [[]]<|cX (qF (fun _ _ _ hG=>uY (k:=.i64) Tryz.underlying35 nH hG.fn.1 rfl (show 0=((0:Nat):Int) from rfl) (show 0<B.length from (by have:=(qL hb1);omega))))<|cX (qF (fun _ _ _ hG=>wH Tryz.isAgg5 hG.fn.1 (show 0<B.length from (by have:=(qL hb1);omega))))<|cA (fun _=>vF) (fun _=>congrArg Value.bool hb2)<|cR [[],[]]<|cX (qF (fun _ _ _ hG=>uY (k:=.i64) Tryz.underlying35 nH hG.fn.1 rfl (show 1=((1:Nat):Int) from rfl) (show 1<B.length from (by have:=(qL hb1);omega))))<|cX (qF (fun _ _ _ hG=>wH Tryz.isAgg5 hG.fn.1 (show 1<B.length from (by have:=(qL hb1);omega))))<|jE [[],[]]) (fun _=>?_)
 refine oC (decide (8<((gB B 1:Nat):Int))) (fun hb3=>?_) (fun hb3=>?_)
 ·
  rw [hb3]
  refine sS Tryz.f111 3 [0,2,3] [] (fun _=>[.agg (kC 0 0 0 0 0 0),undef,vi 5]) (fun _=>[(1,(bD 0 (nb ρ1 0) (cL (kC 0 0 0 0 0 0) 56)))]) (jE [[],[0],[]]) (fun _=>?_)
  refine aF (aC ?_)
  exact mR (v:=(.tuple #[.agg (kC 0 0 0 0 0 0),vi 5])) (fun _ hS=>⟨by rw [(dc_5 (qL hb1) (Or.inr (by have:=yT hb3;omega))).1,(dc_5 (qL hb1) (Or.inr (by have:=yT hb3;omega))).2];rfl,hS.bel⟩)
 rw [hb3]
 have:=yF hb3
 refine aG (aA ?_)
 refine sS Tryz.f111 7 [0,2,3,4] [] (fun ρ=>[.slice a B.length c,.pointer (fK a 1),vy (gB B 1),vn (gB B 1),.agg (kC 0 0 0 ((gB B 1:Nat):Int) 0 0),pt (nb ρ 5),undef]) (fun ρ=>[(5,(nw ρ 5 (cL (kC 0 0 0 0 0 0) 56))),(6,(bD 41 (nb ρ 5) (cL (kC 0 0 0 ((gB B 1:Nat):Int) 0 0) 56)))]) (cR [[]]<|cX (qF (fun _ _ _ hG=>uY (k:=.i64) Tryz.underlying35 nH hG.fn.1 rfl (show 1=((1:Nat):Int) from rfl) (show 1<B.length from (by have:=(qL hb1);omega))))<|cX (qF (fun _ _ _ hG=>wH Tryz.isAgg5 hG.fn.1 (show 1<B.length from (by have:=(qL hb1);omega))))<|jW (fun ρ=>((gB B 1:Nat):Int)) (fun _=>(gB B 1)) (fun _=>(gZ (by have:=yF hb2;have:=iD B 1;omega)))<|jE [[],[],[41]]) (fun ρ8=>?_)
 refine sS Tryz.f111 8 [0,2,3,4] [] (fun _=>[.slice a B.length c,.tuple #[vu (uU B 2 4),vi (rdN B.length 2 4),vi (rU B.length 2 4)],.tuple #[vu (uU B 2 4),vi (rdN B.length 2 4),vi (rU B.length 2 4)],vu (uU B 2 4),vi (rdN B.length 2 4),vi (rU B.length 2 4),jp (nb ρ8 5) 41,undef]) (fun _=>[(7,(bD 1 (nb ρ8 5) (cL (kC 0 0 0 ((gB B 1:Nat):Int) ((uU B 2 4:Nat):Int) 0) 56)))]) (cR [[]]<|cX (qC (fun _ _ w hG=>u32_any a c B 2 (by decide) hBl w hG.fn.1))<|jE [[],[],[],[],[],[1]]) (fun _=>?_)
 refine sS Tryz.f111 8 [0,2,3,4] [] (fun _=>[.slice a B.length c,.tuple #[vu (uU B 6 4),vi (rdN B.length 6 4),vi (rU B.length 6 4)],.tuple #[vu (uU B 6 4),vi (rdN B.length 6 4),vi (rU B.length 6 4)],vu (uU B 6 4),vi (rdN B.length 6 4),vi (rU B.length 6 4),jp (nb ρ8 5) 42,undef]) (fun _=>[(7,(bD 1 (nb ρ8 5) (cL (kC 0 0 0 ((gB B 1:Nat):Int) ((uU B 2 4:Nat):Int) ((uU B 6 4:Nat):Int)) 56)))]) (cR [[]]<|cX (qC (fun _ _ w hG=>u32_any a c B 6 (by decide) hBl w hG.fn.1))<|jE [[],[],[],[],[],[1]]) (fun _=>?_)
 refine sS Tryz.f111 8 [0,2,3,4] [] (fun _=>let qa:=vi (rdN B.length 10 32);let qb:=vi (rU B.length 10 32);[.slice a B.length c,.tuple #[.agg (hB (nM B 10)),qa,qb],.tuple #[.agg (hB (nM B 10)),qa,qb],.agg (hB (nM B 10)),qa,qb,jp (nb ρ8 5) 8,undef]) (fun _=>[(7,(bD 1 (nb ρ8 5) (cL (kC 0 0 (nM B 10) ((gB B 1:Nat):Int) ((uU B 2 4:Nat):Int) ((uU B 6 4:Nat):Int)) 56)))]) (cR [[]]<|cX (qC (fun _ _ w hG=>hash_any a c B 10 (by decide) hBl w hG.fn.1))<|jE [[],[],[],[],[],[1]]) (fun _=>?_)
 refine lK [(0,(.slice a B.length c)),(2,(pt (nb ρ1 0))),(3,(vi 0)),(4,(pt (nb ρ8 5)))] [(nb ρ1 0,(cL (kC 0 0 0 0 0 0) 56)),(nb ρ8 5,(cL (kC 0 0 (nM B 10) ((gB B 1:Nat):Int) ((uU B 2 4:Nat):Int) ((uU B 6 4:Nat):Int)) 56))] ?_
 refine sS Tryz.f111 10 [0,2,3,4,5] [] (fun ρ=>let qa:=vi (rdN B.length 42 32);let qb:=vi (rU B.length 42 32);[.slice a B.length c,.tuple #[.agg (hB (nM B 42)),qa,qb],.tuple #[.agg (hB (nM B 42)),qa,qb],.agg (hB (nM B 42)),qa,qb,pt (nb ρ 6),undef,qa,qb]) (fun ρ=>[(6,(nw ρ 6 (cL (hB 0) 47))),(7,(bD 50 (nb ρ 6) (cL (hB (nM B 42)) 47)))]) (cR [[]]<|cX (qC (fun _ _ w hG=>hash_any a c B 42 (by decide) hBl w hG.fn.1))<|jE [[],[],[],[],[],[50],[],[]]) (fun _=>?_)
 refine sS Tryz.f111 4 [0,2,3,4,8] [1,1,0,1] (fun ρ=>[.agg (hB (nM B 42)),U (nM B 42),pt (nb ρ 2),undef]) (fun ρ=>[(2,(nw ρ 2 (cL (cU 0) 54))),(3,(bD 19 (nb ρ 2) (cL (cU (nM B 42)) 54)))]) (cR [[2]]<|cC (fun _ w=>frombytes_any (nM B 42) w)<|jE [[],[19]]) (fun _=>?_)
 refine aB ?_
 refine sS Tryz.f111 4 [2,3,4,8,63] [] (fun _=>[.slice a B.length c,.pointer (fK a 0),vy (gB B 0),.bool (((gB B 0:Nat):Int)==0)]) (fun _=>[]) (cR [[]]<|cX (qF (fun _ _ _ hG=>uY (k:=.i64) Tryz.underlying35 nH hG.fn.1 rfl (show 0=((0:Nat):Int) from rfl) (show 0<B.length from (by have:=(qL hb1);omega))))<|cX (qF (fun _ _ _ hG=>wH Tryz.isAgg5 hG.fn.1 (show 0<B.length from (by have:=(qL hb1);omega))))<|jE [[]]) (fun _=>?_)
 refine oC (((gB B 0:Nat):Int)==0) (fun hb4=>?_) (fun hb4=>?_)
 ·
  rw [hb4]
  refine aB ?_
  refine sS Tryz.f111 3 [2,3,4,8,66] [] (fun _=>[U (nM B 42),.bool (iY (nM B 42)),.bool (!(iY (nM B 42)))]) (fun _=>[]) (cR [[2]]<|cC (fun _ w=>valid_any (nM B 42) hsV_lt w)<|jE [[]]) (fun _=>?_)
  refine oC (!(iY (nM B 42))) (fun hb5=>?_) (fun hb5=>?_)
  ·
   rw [hb5]
   refine sS Tryz.f111 3 [2,3,4,8] [] (fun _=>[.agg (kC 0 0 0 0 0 0),undef,vi 60]) (fun _=>[(1,(bD 0 (nb ρ1 0) (cL (kC 0 0 0 0 0 0) 56)))]) (jE [[],[0],[]]) (fun _=>?_)
   refine aF (aC (aC ?_))
   exact mR (v:=(.tuple #[.agg (kC 0 0 0 0 0 0),vi 60])) (fun _ hS=>⟨by rw [(dc_v0 (qL hb1) (by have:=yF hb2;omega) (b01 hb4) (dF hb5)).1,(dc_v0 (qL hb1) (by have:=yF hb2;omega) (b01 hb4) (dF hb5)).2]<;>rfl,hS.bel⟩)
  rw [hb5]
  refine aG (aA ?_)
  refine sS Tryz.f111 3 [2,3,4,8] [] (fun _=>[U (nM B 42),jp (nb ρ8 5) 4,undef]) (fun _=>[(2,(bD 1 (nb ρ8 5) (cL (kC 0 (nM B 42) (nM B 10) ((gB B 1:Nat):Int) ((uU B 2 4:Nat):Int) ((uU B 6 4:Nat):Int)) 56)))]) (jE [[2],[],[1]]) (fun _=>?_)
  refine sS Tryz.f111 3 [2,3,4,8] [] (fun _=>[.agg (kC 0 (nM B 42) (nM B 10) ((gB B 1:Nat):Int) ((uU B 2 4:Nat):Int) ((uU B 6 4:Nat):Int)),undef,vi 0]) (fun _=>[(1,(bD 0 (nb ρ1 0) (cL (kC 0 (nM B 42) (nM B 10) ((gB B 1:Nat):Int) ((uU B 2 4:Nat):Int) ((uU B 6 4:Nat):Int)) 56)))]) (jE [[1],[0],[]]) (fun _=>?_)
  refine aF (aC ?_)
  exact mR (v:=(.tuple #[.agg (kC 0 (nM B 42) (nM B 10) ((gB B 1:Nat):Int) ((uU B 2 4:Nat):Int) ((uU B 6 4:Nat):Int)),vi 0])) (fun _ hS=>⟨by rw [(dc_v1 (qL hb1) (by have:=yF hb2;omega) (b01 hb4) (aV hb5)).1,(dc_v1 (qL hb1) (by have:=yF hb2;omega) (b01 hb4) (aV hb5)).2]<;>rfl,hS.bel⟩)
 rw [hb4]
 refine aG (aA ?_)
 refine sS Tryz.f111 8 [2,3,4,8,9,10] [] (fun ρ=>[U (nM B 42),.tuple #[U (dK (nM B 42)),vi (iW (nM B 42))],.tuple #[U (dK (nM B 42)),vi (iW (nM B 42))],U (dK (nM B 42)),vi (iW (nM B 42)),pt (nb ρ 5),undef,vi (iW (nM B 42))]) (fun ρ=>[(5,(nw ρ 5 (cL (cU 0) 54))),(6,(bD 43 (nb ρ 5) (cL (cU (dK (nM B 42))) 54)))]) (cR [[2]]<|cC (fun _ w=>yD (nM B 42) hsV_lt w)<|jE [[],[],[],[],[43],[]]) (fun _=>?_)
 refine aB (jJ Tryz.f111 2 [2,3,4,8,9,77] [vi (iW (nM B 42)),.bool ((iW (nM B 42)) != 0)] ?_)
 refine oC ((iW (nM B 42)) != 0) (fun hb6=>?_) (fun hb6=>?_)
 ·
  rw [hb6]
  refine sS Tryz.f111 3 [2,3,4,8,9] [] (fun _=>[.agg (kC 0 0 0 0 0 0),undef,vi 60]) (fun _=>[(1,(bD 0 (nb ρ1 0) (cL (kC 0 0 0 0 0 0) 56)))]) (jE [[],[0],[]]) (fun _=>?_)
  refine aF (aC ?_)
  exact mR (v:=(.tuple #[.agg (kC 0 0 0 0 0 0),vi 60])) (fun _ hS=>⟨by rw [(dc_s0 (qL hb1) (by have:=yF hb2;omega) (b00 hb4) (xAU hb6)).2.1,(dc_s0 (qL hb1) (by have:=yF hb2;omega) (b00 hb4) (xAU hb6)).2.2];rfl,hS.bel⟩)
 rw [hb6]
 refine aG (aA ?_)
 refine sD Tryz.f111 [0,0,1,5,15,31] 6 [2,3,4] [1,1,0,0] (fun _=>[U (nM B 42),U (dK (nM B 42)),pt (nb ρ8 5),undef,jp (nb ρ8 5) 4,undef]) (fun _=>[(3,(bD 1 (nb ρ8 5) (cL (kC (nM B 42) 0 (nM B 10) ((gB B 1:Nat):Int) ((uU B 2 4:Nat):Int) ((uU B 6 4:Nat):Int)) 56))),(5,(bD 1 (nb ρ8 5) (cL (kC (nM B 42) (dK (nM B 42)) (nM B 10) ((gB B 1:Nat):Int) ((uU B 2 4:Nat):Int) ((uU B 6 4:Nat):Int)) 56)))]) (jE [[2],[3],[],[1],[],[1]]) (fun _=>?_)
 refine sS Tryz.f111 3 [2,3] [1,0] (fun _=>[.agg (kC (nM B 42) (dK (nM B 42)) (nM B 10) ((gB B 1:Nat):Int) ((uU B 2 4:Nat):Int) ((uU B 6 4:Nat):Int)),undef,vi 0]) (fun _=>[(1,(bD 0 (nb ρ1 0) (cL (kC (nM B 42) (dK (nM B 42)) (nM B 10) ((gB B 1:Nat):Int) ((uU B 2 4:Nat):Int) ((uU B 6 4:Nat):Int)) 56)))]) (jE [[1],[0],[]]) (fun _=>?_)
 refine aF ?_
 exact mR (v:=(.tuple #[.agg (kC (nM B 42) (dK (nM B 42)) (nM B 10) ((gB B 1:Nat):Int) ((uU B 2 4:Nat):Int) ((uU B 6 4:Nat):Int)),vi 0])) (fun _ hS=>⟨by rw [(dc_s1 (qL hb1) (by have:=yF hb2;omega) (b00 hb4) (o5 hb6)).1,(dc_s1 (qL hb1) (by have:=yF hb2;omega) (b00 hb4) (o5 hb6)).2]<;>rfl,hS.bel⟩)
theorem oU (z:Int) (w0:World):Calls Tryz.prog 19 #[vi z] w0 (jR (vi (nO z)) w0):=by
 refine Calls.of_ok (n:=13) (F:=(fun _=>True)) Tryz.func19 rfl rfl rfl (by simp) jT ?_
 refine jJ Tryz.f19 1 [0,2] [vi 0] (aB (jJ Tryz.f19 1 [2,3] [vi z] (aI (aB (jJ Tryz.f19 2 [2,3,4] [.bool (z==1),.bool (z==1)] ?_)))))
 refine oC (z==1) (fun hb1=>?_) (fun hb1=>?_)
 ·
  rw [hb1]
  refine aG (aA ?_)
  refine oY ?_
  refine jJ Tryz.f19 1 [2] [vi 0] (aF (aP (aC ?_)))
  exact mR (v:=(vi 0)) (fun _ hS=>⟨congrArg (fun x=>Ending.returned (vi x)) (kd_1 (by have:=xQ hb1;omega)),hS.bel⟩)
 rw [hb1]
 refine jL Tryz.f19 2 [2,3,4] [] [.bool (z==2),.bool (z==2)] [[],[]] (aA ?_)
 refine oC (z==2) (fun hb2=>?_) (fun hb2=>?_)
 ·
  rw [hb2]
  refine jJ Tryz.f19 1 [2] [vi 0] (aF (aP (aC ?_)))
  exact mR (v:=(vi 0)) (fun _ hS=>⟨congrArg (fun x=>Ending.returned (vi x)) (kd_1 (by have:=kR hb1;have:=xQ hb2;omega)),hS.bel⟩)
 rw [hb2]
 refine aB (jJ Tryz.f19 2 [2,3,7] [.bool (z==3),.bool (z==3)] ?_)
 refine oC (z==3) (fun hb3=>?_) (fun hb3=>?_)
 ·
  rw [hb3]
  refine aG (aA ?_)
  refine oY ?_
  refine jJ Tryz.f19 1 [2] [vi 1] (aF (aP (aC ?_)))
  exact mR (v:=(vi 1)) (fun _ hS=>⟨congrArg (fun x=>Ending.returned (vi x)) (kd_3 (by have:=kR hb1;have:=kR hb2;have:=xQ hb3;omega)),hS.bel⟩)
 rw [hb3]
 refine jJ Tryz.f19 2 [2,3,7] [.bool (z==4),.bool (z==4)] ?_
 refine oC (z==4) (fun hb4=>?_) (fun hb4=>?_)
 ·
  rw [hb4]
  refine aG (aA ?_)
  refine oY ?_
  refine jJ Tryz.f19 1 [2] [vi 1] (aF (aP (aC ?_)))
  exact mR (v:=(vi 1)) (fun _ hS=>⟨congrArg (fun x=>Ending.returned (vi x)) (kd_3 (by have:=kR hb1;have:=kR hb2;have:=kR hb3;have:=xQ hb4;omega)),hS.bel⟩)
 rw [hb4]
 refine jL Tryz.f19 2 [2,3,7] [] [.bool (z==5),.bool (z==5)] [[],[]] (aA ?_)
 refine oC (z==5) (fun hb5=>?_) (fun hb5=>?_)
 ·
  rw [hb5]
  refine jJ Tryz.f19 1 [2] [vi 1] (aF (aP (aC ?_)))
  exact mR (v:=(vi 1)) (fun _ hS=>⟨congrArg (fun x=>Ending.returned (vi x)) (kd_3 (by have:=kR hb1;have:=kR hb2;have:=kR hb3;have:=kR hb4;have:=xQ hb5;omega)),hS.bel⟩)
 rw [hb5]
 refine jJ Tryz.f19 2 [2,11] [.bool (z==6),.bool (z==6)] ?_
 refine lK [(2,(vi 0)),(11,(.bool (z==6)))] [] ?_
 refine oC (z==6) (fun hb6=>?_) (fun hb6=>?_)
 ·
  rw [hb6]
  refine jJ Tryz.f19 1 [2] [vi 2] (aF (aP (aC ?_)))
  exact mR (v:=(vi 2)) (fun _ hS=>⟨congrArg (fun x=>Ending.returned (vi x)) (kd_6 (by have:=kR hb1;have:=kR hb2;have:=kR hb3;have:=kR hb4;have:=kR hb5;have:=xQ hb6;omega)),hS.bel⟩)
 rw [hb6]
 refine aG (aJ (aA (jJ Tryz.f19 1 [2] [vi (-1)] (aF ?_))))
 exact mR (v:=(vi (-1))) (fun _ hS=>⟨congrArg (fun x=>Ending.returned (vi x)) (kd_0 (by have:=kR hb1;have:=kR hb2;have:=kR hb3;have:=kR hb4;have:=kR hb5;have:=kR hb6;omega)),hS.bel⟩)
theorem rdkids_any (z:Int) (w0:World):Calls Tryz.prog 62 #[vi z] w0 (jR (vi (nO z)) w0):=by
 refine Calls.of_ok (n:=13) (F:=(fun _=>True)) Tryz.func62 rfl rfl rfl (by simp) jT ?_
 refine jJ Tryz.f62 1 [0,2] [vi 0] (aB (jJ Tryz.f62 1 [2,3] [vi z] (aI (aB (jJ Tryz.f62 2 [2,3,4] [.bool (z==1),.bool (z==1)] ?_)))))
 refine oC (z==1) (fun hb1=>?_) (fun hb1=>?_)
 ·
  rw [hb1]
  refine aG (aA ?_)
  refine oY ?_
  refine jJ Tryz.f62 1 [2] [vi 0] (aF (aP (aC ?_)))
  exact mR (v:=(vi 0)) (fun _ hS=>⟨congrArg (fun x=>Ending.returned (vi x)) (kd_1 (by have:=xQ hb1;omega)),hS.bel⟩)
 rw [hb1]
 refine jL Tryz.f62 2 [2,3,4] [] [.bool (z==2),.bool (z==2)] [[],[]] (aA ?_)
 refine oC (z==2) (fun hb2=>?_) (fun hb2=>?_)
 ·
  rw [hb2]
  refine jJ Tryz.f62 1 [2] [vi 0] (aF (aP (aC ?_)))
  exact mR (v:=(vi 0)) (fun _ hS=>⟨congrArg (fun x=>Ending.returned (vi x)) (kd_1 (by have:=kR hb1;have:=xQ hb2;omega)),hS.bel⟩)
 rw [hb2]
 refine aB (jJ Tryz.f62 2 [2,3,7] [.bool (z==3),.bool (z==3)] ?_)
 refine oC (z==3) (fun hb3=>?_) (fun hb3=>?_)
 ·
  rw [hb3]
  refine aG (aA ?_)
  refine oY ?_
  refine jJ Tryz.f62 1 [2] [vi 1] (aF (aP (aC ?_)))
  exact mR (v:=(vi 1)) (fun _ hS=>⟨congrArg (fun x=>Ending.returned (vi x)) (kd_3 (by have:=kR hb1;have:=kR hb2;have:=xQ hb3;omega)),hS.bel⟩)
 rw [hb3]
 refine jJ Tryz.f62 2 [2,3,7] [.bool (z==4),.bool (z==4)] ?_
 refine oC (z==4) (fun hb4=>?_) (fun hb4=>?_)
 ·
  rw [hb4]
  refine aG (aA ?_)
  refine oY ?_
  refine jJ Tryz.f62 1 [2] [vi 1] (aF (aP (aC ?_)))
  exact mR (v:=(vi 1)) (fun _ hS=>⟨congrArg (fun x=>Ending.returned (vi x)) (kd_3 (by have:=kR hb1;have:=kR hb2;have:=kR hb3;have:=xQ hb4;omega)),hS.bel⟩)
 rw [hb4]
 refine jL Tryz.f62 2 [2,3,7] [] [.bool (z==5),.bool (z==5)] [[],[]] (aA ?_)
 refine oC (z==5) (fun hb5=>?_) (fun hb5=>?_)
 ·
  rw [hb5]
  refine jJ Tryz.f62 1 [2] [vi 1] (aF (aP (aC ?_)))
  exact mR (v:=(vi 1)) (fun _ hS=>⟨congrArg (fun x=>Ending.returned (vi x)) (kd_3 (by have:=kR hb1;have:=kR hb2;have:=kR hb3;have:=kR hb4;have:=xQ hb5;omega)),hS.bel⟩)
 rw [hb5]
 refine jJ Tryz.f62 2 [2,11] [.bool (z==6),.bool (z==6)] ?_
 refine lK [(2,(vi 0)),(11,(.bool (z==6)))] [] ?_
 refine oC (z==6) (fun hb6=>?_) (fun hb6=>?_)
 ·
  rw [hb6]
  refine jJ Tryz.f62 1 [2] [vi 2] (aF (aP (aC ?_)))
  exact mR (v:=(vi 2)) (fun _ hS=>⟨congrArg (fun x=>Ending.returned (vi x)) (kd_6 (by have:=kR hb1;have:=kR hb2;have:=kR hb3;have:=kR hb4;have:=kR hb5;have:=xQ hb6;omega)),hS.bel⟩)
 rw [hb6]
 refine aG (aJ (aA (jJ Tryz.f62 1 [2] [vi (-1)] (aF ?_))))
 exact mR (v:=(vi (-1))) (fun _ hS=>⟨congrArg (fun x=>Ending.returned (vi x)) (kd_0 (by have:=kR hb1;have:=kR hb2;have:=kR hb3;have:=kR hb4;have:=kR hb5;have:=kR hb6;omega)),hS.bel⟩)
theorem dwhole_any (a:Option Addr) (c:Nat) (ts:List bW) (w0:World) (hf0:bM w0 a c ts):Calls Tryz.prog 38 #[.slice a ts.length c] w0 (jR (.bool (vG 1 ts)) w0):=by
 refine Calls.of_ok (n:=29) (F:=(fun w=>bM w a c ts∧True)) Tryz.func38 rfl rfl rfl (by simp) (hf0.pers0.and cO) ?_
 have hlen:ts.length≤1000000:=hf0.max
 have ho:mP ts:=hf0.oks
 refine jJ Tryz.f38 1 [0,2] [vF] (jJ Tryz.f38 1 [0,2,3] [vi 1] (aB (jJ Tryz.f38 3 [2,3,7,8,9] [.slice a ts.length c,vn ts.length,vi 0] (aI ?_))))
 refine oL (σ:=Nat × Int) (fun ⟨i,m⟩=>[(3,(vi m)),(7,(.slice a ts.length c)),(8,(vn ts.length)),(9,(vn i))]) (fun ⟨_,_⟩=>[]) (fun ⟨i,_⟩=>ts.length-i)
   (fun ⟨i,m⟩=>(i≤ts.length)∧(0≤m∧m≤1+(i:Int))∧(vG m (ts.drop i)=vG 1 ts)) (0,1) (⟨Nat.zero_le _,by decide,rfl⟩) [] ?_
 rintro ⟨i,m⟩ ⟨hi,hm,hr⟩
 change Ok Tryz.prog _ _ 29 [(3,(vi m)),(7,(.slice a ts.length c)),(8,(vn ts.length)),(9,(vn i))] _ [] (fun w=>bM w a c ts∧True)
 refine jJ Tryz.f38 1 [3,7,8,9,10] [.bool (decide (((i:Nat):Int)<((ts.length:Nat):Int)))] (aB ?_)
 refine oC (decide (((i:Nat):Int)<((ts.length:Nat):Int))) (fun hb1=>?_) (fun hb1=>?_)
 ·
  rw [hb1]
  have:=yT hb1
  refine aG (aA (aB (aI ?_)))
  refine sS Tryz.f38 4 [3,5,7,8,9] [] (fun ρ=>[.pointer (fK a (i*36)),.agg (bW.row (gT ts i)),pt (nb ρ 2),undef]) (fun ρ=>[(2,(nw ρ 2 (cL (iC 0 0 0 0 vz) 50))),(3,(bD 16 (nb ρ 2) (cL (bW.row (gT ts i)) 50)))]) (cX (qF (fun _ _ _ hG=>bM.idx (k:=.i64) Tryz.underlying24 Tryz.sizeOf50 hG.fn.1 rfl (show ((i:Nat):Int)=((i:Nat):Int) from rfl) (show i<ts.length from (by omega))))<|cX (qF (fun _ _ _ hG=>bM.ldA (i:=i) Tryz.isAgg50 Tryz.sizeOf50 hG.fn.1 (show i<ts.length from (by omega))))<|jE [[],[16]]) (fun ρ5=>?_)
  refine sS Tryz.f38 4 [3,6,7,8,9] [0] (fun _=>[pt (nb ρ5 2),vi (gT ts i).kd,vi (nO (gT ts i).kd),vi (nO (gT ts i).kd)]) (fun _=>[]) (cR [[],[0]]<|cC (fun _ w=>oU (gT ts i).kd w)<|jE [[]]) (fun _=>?_)
  refine aB ?_
  rcases Bool.eq_false_or_eq_true (m==0) with hb2 | hb2
  ·
   refine sS Tryz.f38 6 [3,6,7,8,9,21] [] (fun _=>[vi m,vT,vT,undef,undef,vT]) (fun _=>[]) (cR [[]]<|cA (fun _=>vT) (fun _=>congrArg Value.bool hb2)<|jE [[],[],[],[]]) (fun _=>?_)
   refine oY ?_
   refine jJ Tryz.f38 1 [2,3,6,7,8,9] [vF] (aF (aC (aP (aC (aC (aP (aC ?_)))))))
   exact mR (v:=vF) (fun _ hS=>⟨jB (wh_stop (by omega) (Or.inl (xQ hb2)) hr).symm,hS.bel⟩)
  refine sS Tryz.f38 6 [3,6,7,8,9,21] [] (fun _=>let qa:Value:=.bool (decide ((nO (gT ts i).kd)<0));[vi m,vF,vF,vi (nO (gT ts i).kd),qa,qa]) (fun _=>[]) (cR [[]]<|cA (fun _=>vF) (fun _=>congrArg Value.bool hb2)<|jE [[],[],[],[]]) (fun _=>?_)
  refine oC (decide ((nO (gT ts i).kd)<0)) (fun hb3=>?_) (fun hb3=>?_)
  ·
   rw [hb3]
   refine jJ Tryz.f38 1 [2,3,6,7,8,9] [vF] (aF (aC (aP (aC (aC (aP (aC ?_)))))))
   exact mR (v:=vF) (fun _ hS=>⟨jB (wh_stop (by have:=yT hb3;omega) (Or.inr (yT hb3)) hr).symm,hS.bel⟩)
  rw [hb3]
  have:=yF hb3
  refine aG (aA ?_)
  refine rS Tryz.f38 5 [3,7,8,9] [] (fun _=>let qa:=vi (m+(nO (gT ts i).kd-1));[vi m,vi (nO (gT ts i).kd),vi (nO (gT ts i).kd-1),qa,qa]) (fun _=>[]) (cR [[],[]]<|jU (fun ρ=>((nO (gT ts i).kd)-1)) (fun _=>(nO (gT ts i).kd-1)) (fun _=>(gZ (by have:=zM (gT ts i).kd;omega)))<|jU (fun ρ=>(m+(nO (gT ts i).kd-1))) (fun _=>(m+(nO (gT ts i).kd-1))) (fun _=>(gZ (by have:=zM (gT ts i).kd;omega)))<|jE [[]]) (fun _=>?_)
  refine aJ (aA ?_)
  refine rS Tryz.f38 2 [3,7,8,9] [] (fun _=>[vn (i+1),vn (i+1)]) (fun _=>[]) (jW (fun ρ=>(((i:Nat):Int)+1)) (fun _=>(i+1)) (fun _=>(aW i 1 (by omega)))<|jE [[]]) (fun _=>?_)
  exact mN (i+1,m+(nO (gT ts i).kd-1)) (by show ts.length-(i+1)<ts.length-i;omega) (⟨(by omega),by have:=zM (gT ts i).kd;have:=kR hb2;omega,wh_next (by omega) (kR hb2) (yF hb3) hr⟩) []
 rw [hb1]
 refine bF (aN (aN (aT (aA (jJ Tryz.f38 3 [2] [vi m,.bool (m==0),.bool (m==0)] (aF ?_))))))
 exact mR (v:=(.bool (m==0))) (fun _ hS=>⟨jB ((beq_dec m).trans (wh_end (by have:=yF hb1;omega) hr)),hS.bel⟩)
theorem rdshaped_any (a:Option Addr) (c:Nat) (ts:List bW) (w0:World) (hf0:bM w0 a c ts):Calls Tryz.prog 33 #[.slice a ts.length c] w0 (jR (.bool (shB ts)) w0):=by
 refine Calls.of_ok (n:=40) (F:=(fun w=>bM w a c ts∧True)) Tryz.func33 rfl rfl rfl (by simp) (hf0.pers0.and cO) ?_
 have hlen:ts.length≤1000000:=hf0.max
 have ho:mP ts:=hf0.oks
 refine jJ Tryz.f33 1 [0,2] [vF] (jJ Tryz.f33 1 [0,2,3] [vi 1] (aB (jJ Tryz.f33 1 [0,2,3,4] [vi 0] (aI ?_))))
 refine oL (σ:=Nat × Int) (fun ⟨i,m⟩=>[(0,(.slice a ts.length c)),(3,(vi m)),(4,(vn i))]) (fun ⟨_,_⟩=>[]) (fun ⟨i,_⟩=>ts.length-i)
   (fun ⟨i,m⟩=>(i≤ts.length)∧(0≤m∧m≤1+(i:Int))∧(vG m (ts.drop i)=vG 1 ts)) (0,1) (⟨Nat.zero_le _,by decide,rfl⟩) [] ?_
 rintro ⟨i,m⟩ ⟨hi,hm,hr⟩
 change Ok Tryz.prog _ _ 40 [(0,(.slice a ts.length c)),(3,(vi m)),(4,(vn i))] _ [] (fun w=>bM w a c ts∧True)
 refine aB (jJ Tryz.f33 4 [0,3,4,9] [vn i,.slice a ts.length c,vn ts.length,.bool (decide (((i:Nat):Int)<((ts.length:Nat):Int)))] ?_)
 refine oC (decide (((i:Nat):Int)<((ts.length:Nat):Int))) (fun hb1=>?_) (fun hb1=>?_)
 ·
  rw [hb1]
  have:=yT hb1
  refine aG (aA (aB (aI ?_)))
  refine sS Tryz.f33 7 [0,3,4,5] [] (fun _=>let qa:Value:=.pointer (fK a (i*36));[.slice a ts.length c,vn i,qa,qa,vi (gT ts i).kd,vi (nO (gT ts i).kd),vi (nO (gT ts i).kd)]) (fun _=>[]) (cR [[],[]]<|cX (qF (fun _ _ _ hG=>bM.idx (k:=.i64) Tryz.underlying24 Tryz.sizeOf50 hG.fn.1 rfl (show ((i:Nat):Int)=((i:Nat):Int) from rfl) (show i<ts.length from (by omega))))<|cX (jF (fun _=>Instr.fieldAt 50 (.pointer (fK a (i*36))) 0) (fun _=>(.pointer (fK a (i*36)))) (fun _ _ _ hG=>uH (o:=0) (k:=i*36) Tryz.underlying50 rfl rfl rfl Tryz.sizeOf3 (hG.fn.1.pos (show i<ts.length from (by omega))).1 (hG.fn.1.pos (show i<ts.length from (by omega))).2) (fun _ _ _ _=>cO))<|cX (qF (fun _ _ _ hG=>bM.ld (v:=(vi (gT ts i).kd)) (i:=i) (j:=0) Tryz.isAgg3 hG.fn.1 (show i<ts.length from (by omega)) (by decide) (by kernel_rfl)))<|cC (fun _ w=>rdkids_any (gT ts i).kd w)<|jE [[]]) (fun _=>?_)
  refine aB ?_
  rcases Bool.eq_false_or_eq_true (decide ((nO (gT ts i).kd)<0)) with hb2 | hb2
  ·
   refine sS Tryz.f33 6 [0,3,4,5,23] [] (fun _=>[vi (nO (gT ts i).kd),vT,vT,undef,undef,vT]) (fun _=>[]) (cR [[]]<|cA (fun _=>vT) (fun _=>congrArg Value.bool hb2)<|jE [[],[],[],[]]) (fun _=>?_)
   refine oY ?_
   refine jJ Tryz.f33 1 [0,2,3,4,5] [vF] (aF (aC (aP (aC (aC (aP (aC ?_)))))))
   exact mR (v:=vF) (fun _ hS=>⟨jB (show false=shB ts by unfold shB;rw [wh_stop (by have:=yT hb2;omega) (Or.inr (yT hb2)) hr];rfl),hS.bel⟩)
  refine sS Tryz.f33 6 [0,3,4,5,23] [] (fun _=>[vi (nO (gT ts i).kd),vF,vF,vi m,.bool (m==0),.bool (m==0)]) (fun _=>[]) (cR [[]]<|cA (fun _=>vF) (fun _=>congrArg Value.bool hb2)<|jE [[],[],[],[]]) (fun _=>?_)
  refine oC (m==0) (fun hb3=>?_) (fun hb3=>?_)
  ·
   rw [hb3]
   refine jJ Tryz.f33 1 [0,2,3,4,5] [vF] (aF (aC (aP (aC (aC (aP (aC ?_)))))))
   exact mR (v:=vF) (fun _ hS=>⟨jB (show false=shB ts by unfold shB;rw [wh_stop (by have:=yF hb2;omega) (Or.inl (xQ hb3)) hr];rfl),hS.bel⟩)
  rw [hb3]
  refine aG (aA ?_)
  refine rS Tryz.f33 5 [0,3,4] [] (fun _=>let qa:=vi (m+(nO (gT ts i).kd-1));[vi m,vi (m-1),vi (nO (gT ts i).kd),qa,qa]) (fun _=>[]) (cR [[]]<|jU (fun ρ=>(m-1)) (fun _=>(m-1)) (fun _=>(gZ (by omega)))<|cR [[]]<|jU (fun ρ=>((m-1)+(nO (gT ts i).kd))) (fun _=>(m+(nO (gT ts i).kd-1))) (fun _=>((gZ (by have:=zM (gT ts i).kd;omega)).trans (by omega)))<|jE [[]]) (fun _=>?_)
  refine aJ (aA ?_)
  refine rS Tryz.f33 3 [0,3,4] [] (fun _=>[vn i,vn (i+1),vn (i+1)]) (fun _=>[]) (cR [[]]<|jW (fun ρ=>(((i:Nat):Int)+1)) (fun _=>(i+1)) (fun _=>(aW i 1 (by have:=yF hb2;omega)))<|jE [[]]) (fun _=>?_)
  exact mN (i+1,m+(nO (gT ts i).kd-1)) (by show ts.length-(i+1)<ts.length-i;have:=yF hb2;omega) (⟨(by have:=yF hb2;omega),by have:=zM (gT ts i).kd;have:=kR hb3;have:=yF hb2;omega,wh_next (by have:=yF hb2;omega) (kR hb3) (yF hb2) hr⟩) []
 rw [hb1]
 have:=yF hb1
 refine bF (aN (aN (aT (aA ?_))))
 rcases Bool.eq_false_or_eq_true (m==0) with hb4 | hb4
 ·
  rcases Bool.eq_false_or_eq_true (decide (1≤((ts.length:Nat):Int))) with hb5 | hb5
  ·
   refine sS Tryz.f33 13 [2] [] (fun _=>let qa:Value:=.bool (decide (((ts.length:Nat):Int)≤8));[vi m,vT,vT,.slice a ts.length c,vn ts.length,vT,vT,vT,.slice a ts.length c,vn ts.length,qa,qa,qa]) (fun _=>[]) (cR [[]]<|cA (fun _=>vT) (fun _=>congrArg Value.bool hb4)<|cR [[],[],[]]<|cA (fun _=>vT) (fun _=>congrArg Value.bool hb5)<|jE [[],[],[],[],[],[],[]]) (fun _=>?_)
   refine aF ?_
   exact mR (v:=(.bool (decide (((ts.length:Nat):Int)≤8)))) (fun _ hS=>⟨jB (sh_2 (wh_end (by have:=yT hb5;omega) hr) hb4 hb5),hS.bel⟩)
  refine sS Tryz.f33 13 [2] [] (fun _=>[vi m,vT,vT,.slice a ts.length c,vn ts.length,vF,vF,vF,undef,undef,undef,vF,vF]) (fun _=>[]) (cR [[]]<|cA (fun _=>vT) (fun _=>congrArg Value.bool hb4)<|cR [[],[],[]]<|cA (fun _=>vF) (fun _=>congrArg Value.bool hb5)<|jE [[],[],[],[],[],[],[]]) (fun _=>?_)
  refine aF ?_
  exact mR (v:=vF) (fun _ hS=>⟨jB (sh_1 (wh_end (by have:=yF hb5;omega) hr) hb4 hb5),hS.bel⟩)
 refine sS Tryz.f33 13 [2] [] (fun _=>[vi m,vF,vF,undef,undef,undef,vF,vF,undef,undef,undef,vF,vF]) (fun _=>[]) (cR [[]]<|cA (fun _=>vF) (fun _=>congrArg Value.bool hb4)<|jE [[],[],[],[],[],[],[],[],[],[],[]]) (fun _=>?_)
 refine aF ?_
 exact mR (v:=vF) (fun _ hS=>⟨jB (sh_0 (wh_end (by omega) hr) hb4),hS.bel⟩)
theorem dfields_any (kd : Int) (m : Int) (nu : Nat) (h : Nat) (ka : Option Addr) (kc : Nat) (ks : List dO) (hh : h < M) (w0 : World) : Calls Tryz.prog 39 #[.agg (iC kd m ((nu : Nat) : Int) h (.slice ka ks.length kc))] w0 (jR (.bool (fdN kd m nu h ks.length)) w0) := by
 refine Calls.of_ok (n:=70) (F:=(fun _=>True)) Tryz.func39 rfl rfl rfl (by simp) jT ?_
 refine sS Tryz.f39 2 [1,2] [] (fun ρ=>[pt (nb ρ 0),vF]) (fun ρ=>[(0,(nw ρ 0 (cL (iC kd m ((nu:Nat):Int) h (.slice ka ks.length kc)) 50)))]) (jE [[],[]]) (fun ρ1=>?_)
 refine okJ1 (σ:=Unit) (fun _=>[(1,(pt (nb ρ1 0)))]) (fun _=>[(nb ρ1 0,(cL (iC kd m ((nu:Nat):Int) h (.slice ka ks.length kc)) 50))]) (fun _=>(fun _=>True)) (fun _=>(kd=2∨m=0)) ?_ ?_
 ·
  rintro _u hj1
  change Ok Tryz.prog _ _ 70 [(1,(pt (nb ρ1 0)))] _ [(nb ρ1 0,(cL (iC kd m ((nu:Nat):Int) h (.slice ka ks.length kc)) 50))] (fun _=>True)
  refine okJ1 (σ:=Unit) (fun _=>[(1,(pt (nb ρ1 0)))]) (fun _=>[(nb ρ1 0,(cL (iC kd m ((nu:Nat):Int) h (.slice ka ks.length kc)) 50))]) (fun _=>(fun _=>True)) (fun _=>(kd=3∨kd=4∨nu=0)) ?_ ?_
  ·
   rintro _u hj2
   change Ok Tryz.prog _ _ 70 [(1,(pt (nb ρ1 0)))] _ [(nb ρ1 0,(cL (iC kd m ((nu:Nat):Int) h (.slice ka ks.length kc)) 50))] (fun _=>True)
   refine okJ1 (σ:=Unit) (fun _=>[(1,(pt (nb ρ1 0)))]) (fun _=>[(nb ρ1 0,(cL (iC kd m ((nu:Nat):Int) h (.slice ka ks.length kc)) 50))]) (fun _=>(fun _=>True)) (fun _=>(kd=5∨h=0)) ?_ ?_
   ·
    rintro _u hj3
    change Ok Tryz.prog _ _ 70 [(1,(pt (nb ρ1 0)))] _ [(nb ρ1 0,(cL (iC kd m ((nu:Nat):Int) h (.slice ka ks.length kc)) 50))] (fun _=>True)
    refine aB (jM Tryz.f39 2 [1,34] [] [pt (nb ρ1 0),vi kd] [[],[0]] (aI (jJ Tryz.f39 2 [1,34,35] [.bool (kd==1),.bool (kd==1)] ?_)))
    refine oC (kd==1) (fun hb1=>?_) (fun hb1=>?_)
    ·
     rw [hb1]
     refine jM Tryz.f39 5 [1,2] [] (let qa:Value:=.bool (((ks.length:Nat):Int)==1);[jp (nb ρ1 0) 35,.slice ka ks.length kc,vn ks.length,qa,qa]) [[],[0],[],[],[]] (aF (aP (aC ?_)))
     exact mR (v:=(.bool (((ks.length:Nat):Int)==1))) (fun _ hS=>⟨jB (fd_b (by have:=xQ hb1;have:=hj1;have:=hj2;have:=hj3;unfold o7;omega)),hS.bel⟩)
    rw [hb1]
    refine jJ Tryz.f39 2 [1,41] [.bool (kd==2),.bool (kd==2)] ?_
    refine oC (kd==2) (fun hb2=>?_) (fun hb2=>?_)
    ·
     rw [hb2]
     rcases Bool.eq_false_or_eq_true (decide (1≤((ks.length:Nat):Int))) with hb3 | hb3
     ·
      rcases Bool.eq_false_or_eq_true (decide (((ks.length:Nat):Int)≤15)) with hb4 | hb4
      ·
       rcases Bool.eq_false_or_eq_true (decide (1≤m)) with hb5 | hb5
       ·
        refine sS Tryz.f39 24 [1,2] [] (fun _=>let qa:Value:=.bool (decide (m≤((ks.length:Nat):Int)));let qb:Value:=.slice ka ks.length kc;[jp (nb ρ1 0) 35,qb,vn ks.length,vT,vT,jp (nb ρ1 0) 35,qb,vn ks.length,vT,vT,vT,jp (nb ρ1 0) 1,vi m,vT,vT,vT,jp (nb ρ1 0) 1,vi m,jp (nb ρ1 0) 35,qb,vn ks.length,qa,qa,qa]) (fun _=>[]) (cR [[],[0],[]]<|cA (fun _=>vT) (fun _=>congrArg Value.bool hb3)<|cR [[],[],[0],[]]<|cA (fun _=>vT) (fun _=>congrArg Value.bool hb4)<|cR [[],[],[],[0]]<|cA (fun _=>vT) (fun _=>congrArg Value.bool hb5)<|jE [[],[],[],[0],[],[0],[],[],[],[]]) (fun _=>?_)
        refine aF (aP (aC ?_))
        exact mR (v:=(.bool (decide (m≤((ks.length:Nat):Int))))) (fun _ hS=>⟨jB (fd_d (by have:=kR hb1;have:=xQ hb2;have:=yT hb3;have:=yT hb4;have:=yT hb5;have:=hj1;have:=hj2;have:=hj3;unfold o7;omega)),hS.bel⟩)
       refine sS Tryz.f39 24 [1,2] [] (fun _=>[jp (nb ρ1 0) 35,.slice ka ks.length kc,vn ks.length,vT,vT,jp (nb ρ1 0) 35,.slice ka ks.length kc,vn ks.length,vT,vT,vT,jp (nb ρ1 0) 1,vi m,vF,vF,vF,undef,undef,undef,undef,undef,undef,vF,vF]) (fun _=>[]) (cR [[],[0],[]]<|cA (fun _=>vT) (fun _=>congrArg Value.bool hb3)<|cR [[],[],[0],[]]<|cA (fun _=>vT) (fun _=>congrArg Value.bool hb4)<|cR [[],[],[],[0]]<|cA (fun _=>vF) (fun _=>congrArg Value.bool hb5)<|jE [[],[],[],[],[],[],[],[],[],[]]) (fun _=>?_)
       refine aF (aP (aC ?_))
       exact mR (v:=vF) (fun _ hS=>⟨jB (qU (by have:=kR hb1;have:=xQ hb2;have:=yT hb3;have:=yT hb4;have:=yF hb5;have:=hj1;have:=hj2;have:=hj3;unfold o7;omega)),hS.bel⟩)
      refine sS Tryz.f39 24 [1,2] [] (fun _=>[jp (nb ρ1 0) 35,.slice ka ks.length kc,vn ks.length,vT,vT,jp (nb ρ1 0) 35,.slice ka ks.length kc,vn ks.length,vF,vF,vF,undef,undef,undef,vF,vF,undef,undef,undef,undef,undef,undef,vF,vF]) (fun _=>[]) (cR [[],[0],[]]<|cA (fun _=>vT) (fun _=>congrArg Value.bool hb3)<|cR [[],[],[0],[]]<|cA (fun _=>vF) (fun _=>congrArg Value.bool hb4)<|jE [[],[],[],[],[],[],[],[],[],[],[],[],[],[],[]]) (fun _=>?_)
      refine aF (aP (aC ?_))
      exact mR (v:=vF) (fun _ hS=>⟨jB (qU (by have:=kR hb1;have:=xQ hb2;have:=yT hb3;have:=yF hb4;have:=hj1;have:=hj2;have:=hj3;unfold o7;omega)),hS.bel⟩)
     refine sS Tryz.f39 24 [1,2] [] (fun _=>[jp (nb ρ1 0) 35,.slice ka ks.length kc,vn ks.length,vF,vF,undef,undef,undef,undef,vF,vF,undef,undef,undef,vF,vF,undef,undef,undef,undef,undef,undef,vF,vF]) (fun _=>[]) (cR [[],[0],[]]<|cA (fun _=>vF) (fun _=>congrArg Value.bool hb3)<|jE [[],[],[],[],[],[],[],[],[],[],[],[],[],[],[],[],[],[],[],[]]) (fun _=>?_)
     refine aF (aP (aC ?_))
     exact mR (v:=vF) (fun _ hS=>⟨jB (qU (by have:=kR hb1;have:=xQ hb2;have:=yF hb3;have:=hj1;have:=hj2;have:=hj3;unfold o7;omega)),hS.bel⟩)
    rw [hb2]
    refine aG (aJ (aA (jM Tryz.f39 5 [2] [0] (let qa:Value:=.bool (((ks.length:Nat):Int)==0);[jp (nb ρ1 0) 35,.slice ka ks.length kc,vn ks.length,qa,qa]) [[],[0],[],[],[]] (aF ?_))))
    exact mR (v:=(.bool (((ks.length:Nat):Int)==0))) (fun _ hS=>⟨jB (fd_b (by have:=kR hb1;have:=kR hb2;have:=hj1;have:=hj2;have:=hj3;unfold o7;omega)),hS.bel⟩)
   intro J1
   refine aB ?_
   rcases Bool.eq_false_or_eq_true (kd != 5) with hb6 | hb6
   ·
    refine sS Tryz.f39 9 [1,32] [] (fun _=>[pt (nb ρ1 0),vi kd,vT,vT,jp (nb ρ1 0) 3,.agg (hB h),.agg (hB 0),.bool (!decide (h=0)),.bool (!decide (h=0))]) (fun _=>[]) (cR [[],[0]]<|cA (fun _=>vT) (fun _=>congrArg Value.bool hb6)<|cR [[],[],[0],[]]<|cB (a:=fun ρ=>(.agg (hB h))) (b:=fun ρ=>(.agg (hB 0))) (v:=fun ρ=>(.bool (!decide (h=0)))) .neq 47 (fun _ _=>neqH h 0 hh (by decide +kernel) _)<|jE [[]]) (fun _=>?_)
    refine oC (!decide (h=0)) (fun hb7=>?_) (fun hb7=>?_)
    ·
     rw [hb7]
     refine jJ Tryz.f39 1 [1,2] [vF] (aF (aC ?_))
     exact mR (v:=vF) (fun _ hS=>⟨jB (qU (by have:=iK hb6;have:=yF (dF hb7);have:=hj1;have:=hj2;unfold o7;omega)),hS.bel⟩)
    rw [hb7]
    refine aG (aA ?_)
    refine lK [(1,(pt (nb ρ1 0))),(32,vF)] [(nb ρ1 0,(cL (iC kd m ((nu:Nat):Int) h (.slice ka ks.length kc)) 50))] ?_
    exact wQ J1 () (by have:=iK hb6;have:=yT (aV hb7);omega) (fun w hS=>hS)
   refine sS Tryz.f39 9 [1,32] [] (fun _=>[pt (nb ρ1 0),vi kd,vF,vF,undef,undef,undef,undef,vF]) (fun _=>[]) (cR [[],[0]]<|cA (fun _=>vF) (fun _=>congrArg Value.bool hb6)<|jE [[],[],[],[],[],[]]) (fun _=>?_)
   refine oN ?_
   refine aG (aA ?_)
   refine lK [(1,(pt (nb ρ1 0))),(32,vF)] [(nb ρ1 0,(cL (iC kd m ((nu:Nat):Int) h (.slice ka ks.length kc)) 50))] ?_
   exact wQ J1 () (by have:=dD hb6;omega) (fun w hS=>hS)
  intro J2
  refine aB ?_
  rcases Bool.eq_false_or_eq_true (kd != 3) with hb8 | hb8
  ·
   rcases Bool.eq_false_or_eq_true (kd != 4) with hb9 | hb9
   ·
    refine sS Tryz.f39 13 [1,23] [] (fun _=>let qa:Value:=.bool (((nu:Nat):Int) != 0);[pt (nb ρ1 0),vi kd,vT,vT,pt (nb ρ1 0),vi kd,vT,vT,vT,jp (nb ρ1 0) 2,vu nu,qa,qa]) (fun _=>[]) (cR [[],[0]]<|cA (fun _=>vT) (fun _=>congrArg Value.bool hb8)<|cR [[],[],[0]]<|cA (fun _=>vT) (fun _=>congrArg Value.bool hb9)<|jE [[],[],[],[0],[],[]]) (fun _=>?_)
    refine oC (((nu:Nat):Int) != 0) (fun hb10=>?_) (fun hb10=>?_)
    ·
     rw [hb10]
     refine jJ Tryz.f39 1 [1,2] [vF] (aF (aC ?_))
     exact mR (v:=vF) (fun _ hS=>⟨jB (qU (by have:=iK hb8;have:=iK hb9;have:=iK hb10;have:=hj1;unfold o7;omega)),hS.bel⟩)
    rw [hb10]
    refine aG (aA ?_)
    refine lK [(1,(pt (nb ρ1 0))),(23,vF)] [(nb ρ1 0,(cL (iC kd m ((nu:Nat):Int) h (.slice ka ks.length kc)) 50))] ?_
    exact wQ J2 () (by have:=iK hb8;have:=iK hb9;have:=dD hb10;omega) (fun w hS=>hS)
   refine sS Tryz.f39 13 [1,23] [] (fun _=>[pt (nb ρ1 0),vi kd,vT,vT,pt (nb ρ1 0),vi kd,vF,vF,vF,undef,undef,undef,vF]) (fun _=>[]) (cR [[],[0]]<|cA (fun _=>vT) (fun _=>congrArg Value.bool hb8)<|cR [[],[],[0]]<|cA (fun _=>vF) (fun _=>congrArg Value.bool hb9)<|jE [[],[],[],[],[],[]]) (fun _=>?_)
   refine oN ?_
   refine aG (aA ?_)
   refine lK [(1,(pt (nb ρ1 0))),(23,vF)] [(nb ρ1 0,(cL (iC kd m ((nu:Nat):Int) h (.slice ka ks.length kc)) 50))] ?_
   exact wQ J2 () (by have:=iK hb8;have:=dD hb9;omega) (fun w hS=>hS)
  refine sS Tryz.f39 13 [1,23] [] (fun _=>[pt (nb ρ1 0),vi kd,vF,vF,undef,undef,undef,vF,vF,undef,undef,undef,vF]) (fun _=>[]) (cR [[],[0]]<|cA (fun _=>vF) (fun _=>congrArg Value.bool hb8)<|jE [[],[],[],[],[],[],[],[],[],[]]) (fun _=>?_)
  refine oN ?_
  refine aG (aA ?_)
  refine lK [(1,(pt (nb ρ1 0))),(23,vF)] [(nb ρ1 0,(cL (iC kd m ((nu:Nat):Int) h (.slice ka ks.length kc)) 50))] ?_
  exact wQ J2 () (by have:=dD hb8;omega) (fun w hS=>hS)
 intro J3
 refine aB ?_
 rcases Bool.eq_false_or_eq_true (kd != 2) with hb11 | hb11
 ·
  refine sS Tryz.f39 8 [1,2,10] [] (fun _=>[pt (nb ρ1 0),vi kd,vT,vT,jp (nb ρ1 0) 1,vi m,.bool (m != 0),.bool (m != 0)]) (fun _=>[]) (cR [[],[0]]<|cA (fun _=>vT) (fun _=>congrArg Value.bool hb11)<|jE [[],[],[0],[],[]]) (fun _=>?_)
  refine oC (m != 0) (fun hb12=>?_) (fun hb12=>?_)
  ·
   rw [hb12]
   refine jJ Tryz.f39 1 [1,2] [vF] (aF (aC ?_))
   exact mR (v:=vF) (fun _ hS=>⟨jB (qU (by have:=iK hb11;have:=iK hb12;unfold o7;omega)),hS.bel⟩)
  rw [hb12]
  refine aG (aA ?_)
  refine lK [(1,(pt (nb ρ1 0))),(2,vF),(10,vF)] [(nb ρ1 0,(cL (iC kd m ((nu:Nat):Int) h (.slice ka ks.length kc)) 50))] ?_
  exact wQ J3 () (by have:=iK hb11;have:=dD hb12;omega) (fun w hS=>hS)
 refine sS Tryz.f39 8 [1,2,10] [] (fun _=>[pt (nb ρ1 0),vi kd,vF,vF,undef,undef,undef,vF]) (fun _=>[]) (cR [[],[0]]<|cA (fun _=>vF) (fun _=>congrArg Value.bool hb11)<|jE [[],[],[],[],[]]) (fun _=>?_)
 refine oN ?_
 refine aG (aA ?_)
 refine lK [(1,(pt (nb ρ1 0))),(2,vF),(10,vF)] [(nb ρ1 0,(cL (iC kd m ((nu:Nat):Int) h (.slice ka ks.length kc)) 50))] ?_
 exact wQ J3 () (by have:=dD hb11;omega) (fun w hS=>hS)
theorem rdfields_any (kd:Int) (m:Int) (nu:Nat) (h:Nat) (ka:Option Addr) (kc:Nat) (ks:List dO) (hh:h<M) (w0:World):Calls Tryz.prog 34 #[.agg (iC kd m ((nu:Nat):Int) h (.slice ka ks.length kc))] w0 (jR (.bool (fdN kd m nu h ks.length)) w0):=by
 refine Calls.of_ok (n:=68) (F:=(fun _=>True)) Tryz.func34 rfl rfl rfl (by simp) jT ?_
 refine sS Tryz.f34 2 [1,2] [] (fun ρ=>[pt (nb ρ 0),vF]) (fun ρ=>[(0,(nw ρ 0 (cL (iC kd m ((nu:Nat):Int) h (.slice ka ks.length kc)) 50)))]) (jE [[],[]]) (fun ρ1=>?_)
 refine jM Tryz.f34 4 [1,2,3] [] [jp (nb ρ1 0) 35,.slice ka ks.length kc,vn ks.length,vn ks.length] [[],[0],[],[]] ?_
 refine okJ1 (σ:=Unit) (fun _=>[(1,(pt (nb ρ1 0))),(3,(vn ks.length))]) (fun _=>[(nb ρ1 0,(cL (iC kd m ((nu:Nat):Int) h (.slice ka ks.length kc)) 50))]) (fun _=>(fun _=>True)) (fun _=>(kd=3∨kd=4∨nu=0)∧(kd=5∨h=0)) ?_ ?_
 ·
  rintro _u ⟨hj2,hj3⟩
  change Ok Tryz.prog _ _ 68 [(1,(pt (nb ρ1 0))),(3,(vn ks.length))] _ [(nb ρ1 0,(cL (iC kd m ((nu:Nat):Int) h (.slice ka ks.length kc)) 50))] (fun _=>True)
  refine aB (jM Tryz.f34 2 [1,3,32] [] [pt (nb ρ1 0),vi kd] [[],[0]] (aI (jJ Tryz.f34 2 [1,3,32,33] [.bool (kd==1),.bool (kd==1)] ?_)))
  refine oC (kd==1) (fun hb1=>?_) (fun hb1=>?_)
  ·
   rw [hb1]
   rcases Bool.eq_false_or_eq_true (((ks.length:Nat):Int)==1) with hb2 | hb2
   ·
    refine sS Tryz.f34 8 [1,2,3] [] (fun _=>[vn ks.length,vT,vT,jp (nb ρ1 0) 1,vi m,.bool (m==0),.bool (m==0),.bool (m==0)]) (fun _=>[]) (cR [[]]<|cA (fun _=>vT) (fun _=>congrArg Value.bool hb2)<|jE [[],[],[0],[],[],[]]) (fun _=>?_)
    refine aF (aP (aC ?_))
    exact mR (v:=(.bool (m==0))) (fun _ hS=>⟨jB (fd_b (by have:=xQ hb1;have:=xQ hb2;have:=hj2;have:=hj3;unfold o7;omega)),hS.bel⟩)
   refine sS Tryz.f34 8 [1,2,3] [] (fun _=>[vn ks.length,vF,vF,undef,undef,undef,vF,vF]) (fun _=>[]) (cR [[]]<|cA (fun _=>vF) (fun _=>congrArg Value.bool hb2)<|jE [[],[],[],[],[],[]]) (fun _=>?_)
   refine aF (aP (aC ?_))
   exact mR (v:=vF) (fun _ hS=>⟨jB (qU (by have:=xQ hb1;have:=kR hb2;have:=hj2;have:=hj3;unfold o7;omega)),hS.bel⟩)
  rw [hb1]
  refine jJ Tryz.f34 2 [1,3,42] [.bool (kd==2),.bool (kd==2)] ?_
  refine oC (kd==2) (fun hb3=>?_) (fun hb3=>?_)
  ·
   rw [hb3]
   rcases Bool.eq_false_or_eq_true (decide (1≤((ks.length:Nat):Int))) with hb4 | hb4
   ·
    rcases Bool.eq_false_or_eq_true (decide (((ks.length:Nat):Int)≤15)) with hb5 | hb5
    ·
     rcases Bool.eq_false_or_eq_true (decide (1≤m)) with hb6 | hb6
     ·
      refine sS Tryz.f34 18 [1,2,3] [] (fun _=>let qa:Value:=.bool (decide (m≤((ks.length:Nat):Int)));[vn ks.length,vT,vT,vn ks.length,vT,vT,vT,jp (nb ρ1 0) 1,vi m,vT,vT,vT,jp (nb ρ1 0) 1,vi m,vn ks.length,qa,qa,qa]) (fun _=>[]) (cR [[]]<|cA (fun _=>vT) (fun _=>congrArg Value.bool hb4)<|cR [[],[]]<|cA (fun _=>vT) (fun _=>congrArg Value.bool hb5)<|cR [[],[],[],[0]]<|cA (fun _=>vT) (fun _=>congrArg Value.bool hb6)<|jE [[],[],[],[0],[],[],[],[]]) (fun _=>?_)
      refine aF (aP (aC ?_))
      exact mR (v:=(.bool (decide (m≤((ks.length:Nat):Int))))) (fun _ hS=>⟨jB (fd_d (by have:=kR hb1;have:=xQ hb3;have:=yT hb4;have:=yT hb5;have:=yT hb6;have:=hj2;have:=hj3;unfold o7;omega)),hS.bel⟩)
     refine sS Tryz.f34 18 [1,2,3] [] (fun _=>[vn ks.length,vT,vT,vn ks.length,vT,vT,vT,jp (nb ρ1 0) 1,vi m,vF,vF,vF,undef,undef,undef,undef,vF,vF]) (fun _=>[]) (cR [[]]<|cA (fun _=>vT) (fun _=>congrArg Value.bool hb4)<|cR [[],[]]<|cA (fun _=>vT) (fun _=>congrArg Value.bool hb5)<|cR [[],[],[],[0]]<|cA (fun _=>vF) (fun _=>congrArg Value.bool hb6)<|jE [[],[],[],[],[],[],[],[]]) (fun _=>?_)
     refine aF (aP (aC ?_))
     exact mR (v:=vF) (fun _ hS=>⟨jB (qU (by have:=kR hb1;have:=xQ hb3;have:=yT hb4;have:=yT hb5;have:=yF hb6;have:=hj2;have:=hj3;unfold o7;omega)),hS.bel⟩)
    refine sS Tryz.f34 18 [1,2,3] [] (fun _=>[vn ks.length,vT,vT,vn ks.length,vF,vF,vF,undef,undef,undef,vF,vF,undef,undef,undef,undef,vF,vF]) (fun _=>[]) (cR [[]]<|cA (fun _=>vT) (fun _=>congrArg Value.bool hb4)<|cR [[],[]]<|cA (fun _=>vF) (fun _=>congrArg Value.bool hb5)<|jE [[],[],[],[],[],[],[],[],[],[],[],[],[]]) (fun _=>?_)
    refine aF (aP (aC ?_))
    exact mR (v:=vF) (fun _ hS=>⟨jB (qU (by have:=kR hb1;have:=xQ hb3;have:=yT hb4;have:=yF hb5;have:=hj2;have:=hj3;unfold o7;omega)),hS.bel⟩)
   refine sS Tryz.f34 18 [1,2,3] [] (fun _=>[vn ks.length,vF,vF,undef,undef,vF,vF,undef,undef,undef,vF,vF,undef,undef,undef,undef,vF,vF]) (fun _=>[]) (cR [[]]<|cA (fun _=>vF) (fun _=>congrArg Value.bool hb4)<|jE [[],[],[],[],[],[],[],[],[],[],[],[],[],[],[],[]]) (fun _=>?_)
   refine aF (aP (aC ?_))
   exact mR (v:=vF) (fun _ hS=>⟨jB (qU (by have:=kR hb1;have:=xQ hb3;have:=yF hb4;have:=hj2;have:=hj3;unfold o7;omega)),hS.bel⟩)
  rw [hb3]
  refine aG (aJ (aA ?_))
  rcases Bool.eq_false_or_eq_true (((ks.length:Nat):Int)==0) with hb7 | hb7
  ·
   refine sS Tryz.f34 8 [2] [0] (fun _=>[vn ks.length,vT,vT,jp (nb ρ1 0) 1,vi m,.bool (m==0),.bool (m==0),.bool (m==0)]) (fun _=>[]) (cR [[]]<|cA (fun _=>vT) (fun _=>congrArg Value.bool hb7)<|jE [[],[],[0],[],[],[]]) (fun _=>?_)
   refine aF ?_
   exact mR (v:=(.bool (m==0))) (fun _ hS=>⟨jB (fd_b (by have:=kR hb1;have:=kR hb3;have:=xQ hb7;have:=hj2;have:=hj3;unfold o7;omega)),hS.bel⟩)
  refine sS Tryz.f34 8 [2] [0] (fun _=>[vn ks.length,vF,vF,undef,undef,undef,vF,vF]) (fun _=>[]) (cR [[]]<|cA (fun _=>vF) (fun _=>congrArg Value.bool hb7)<|jE [[],[],[],[],[],[]]) (fun _=>?_)
  refine aF ?_
  exact mR (v:=vF) (fun _ hS=>⟨jB (qU (by have:=kR hb1;have:=kR hb3;have:=kR hb7;have:=hj2;have:=hj3;unfold o7;omega)),hS.bel⟩)
 intro J1
 refine aB ?_
 rcases Bool.eq_false_or_eq_true (((nu:Nat):Int) != 0) with hb8 | hb8
 ·
  rcases Bool.eq_false_or_eq_true (kd != 3) with hb9 | hb9
  ·
   rcases Bool.eq_false_or_eq_true (kd != 4) with hb10 | hb10
   ·
    refine sS Tryz.f34 24 [1,2,3,30] [] (fun _=>[jp (nb ρ1 0) 2,vu nu,vT,vT,pt (nb ρ1 0),vi kd,vT,vT,vT,pt (nb ρ1 0),vi kd,vT,vT,vT,undef,undef,undef,undef,undef,undef,undef,undef,undef,vT]) (fun _=>[]) (cR [[],[0]]<|cA (fun _=>vT) (fun _=>congrArg Value.bool hb8)<|cR [[],[],[0]]<|cA (fun _=>vT) (fun _=>congrArg Value.bool hb9)<|cR [[],[],[],[0]]<|cA (fun _=>vT) (fun _=>congrArg Value.bool hb10)<|jE [[],[],[],[],[],[],[],[],[],[],[],[]]) (fun _=>?_)
    refine oY ?_
    refine jJ Tryz.f34 1 [1,2,3] [vF] (aF (aC ?_))
    exact mR (v:=vF) (fun _ hS=>⟨jB (qU (by have:=iK hb8;have:=iK hb9;have:=iK hb10;unfold o7;omega)),hS.bel⟩)
   rcases Bool.eq_false_or_eq_true (decide (h=0)) with hb11 | hb11
   ·
    refine sS Tryz.f34 24 [1,2,3,30] [] (fun _=>[jp (nb ρ1 0) 2,vu nu,vT,vT,pt (nb ρ1 0),vi kd,vT,vT,vT,pt (nb ρ1 0),vi kd,vF,vF,vF,jp (nb ρ1 0) 3,.agg (hB h),.agg (hB 0),vF,vF,undef,undef,undef,vF,vF]) (fun _=>[]) (cR [[],[0]]<|cA (fun _=>vT) (fun _=>congrArg Value.bool hb8)<|cR [[],[],[0]]<|cA (fun _=>vT) (fun _=>congrArg Value.bool hb9)<|cR [[],[],[],[0]]<|cA (fun _=>vF) (fun _=>congrArg Value.bool hb10)<|cR [[],[],[],[0],[]]<|cB (a:=fun ρ=>(.agg (hB h))) (b:=fun ρ=>(.agg (hB 0))) (v:=fun ρ=>vF) .neq 47 (fun _ _=>(neqH h 0 hh (by decide +kernel) _).trans (by rw [hb11];try rfl))<|jE [[],[],[],[],[],[]]) (fun _=>?_)
    refine oN ?_
    refine aG (aA ?_)
    refine lK [(1,(pt (nb ρ1 0))),(2,vF),(3,(vn ks.length)),(30,vF)] [(nb ρ1 0,(cL (iC kd m ((nu:Nat):Int) h (.slice ka ks.length kc)) 50))] ?_
    exact wQ J1 () (⟨(by have:=iK hb8;have:=iK hb9;have:=dD hb10;have:=yT hb11;omega),(by have:=iK hb8;have:=iK hb9;have:=dD hb10;have:=yT hb11;omega)⟩) (fun w hS=>hS)
   refine sS Tryz.f34 24 [1,2,3,30] [] (fun _=>[jp (nb ρ1 0) 2,vu nu,vT,vT,pt (nb ρ1 0),vi kd,vT,vT,vT,pt (nb ρ1 0),vi kd,vF,vF,vF,jp (nb ρ1 0) 3,.agg (hB h),.agg (hB 0),vT,vT,pt (nb ρ1 0),vi kd,vT,vT,vT]) (fun _=>[]) (cR [[],[0]]<|cA (fun _=>vT) (fun _=>congrArg Value.bool hb8)<|cR [[],[],[0]]<|cA (fun _=>vT) (fun _=>congrArg Value.bool hb9)<|cR [[],[],[],[0]]<|cA (fun _=>vF) (fun _=>congrArg Value.bool hb10)<|cR [[],[],[],[0],[]]<|cB (a:=fun ρ=>(.agg (hB h))) (b:=fun ρ=>(.agg (hB 0))) (v:=fun ρ=>vT) .neq 47 (fun _ _=>(neqH h 0 hh (by decide +kernel) _).trans (by rw [hb11];try rfl))<|cR [[],[],[0]]<|jQ (fun ρ=>(kd != 5)) true (fun _=>(show (kd != 5)=true by rw [dD hb10];rfl))<|jE [[],[]]) (fun _=>?_)
   refine oY ?_
   refine jJ Tryz.f34 1 [1,2,3] [vF] (aF (aC ?_))
   exact mR (v:=vF) (fun _ hS=>⟨jB (qU (by have:=iK hb8;have:=iK hb9;have:=dD hb10;have:=yF hb11;unfold o7;omega)),hS.bel⟩)
  rcases Bool.eq_false_or_eq_true (decide (h=0)) with hb12 | hb12
  ·
   refine sS Tryz.f34 24 [1,2,3,30] [] (fun _=>[jp (nb ρ1 0) 2,vu nu,vT,vT,pt (nb ρ1 0),vi kd,vF,vF,vF,undef,undef,undef,vF,vF,jp (nb ρ1 0) 3,.agg (hB h),.agg (hB 0),vF,vF,undef,undef,undef,vF,vF]) (fun _=>[]) (cR [[],[0]]<|cA (fun _=>vT) (fun _=>congrArg Value.bool hb8)<|cR [[],[],[0]]<|cA (fun _=>vF) (fun _=>congrArg Value.bool hb9)<|cR [[],[],[],[],[],[],[],[],[0],[]]<|cB (a:=fun ρ=>(.agg (hB h))) (b:=fun ρ=>(.agg (hB 0))) (v:=fun ρ=>vF) .neq 47 (fun _ _=>(neqH h 0 hh (by decide +kernel) _).trans (by rw [hb12];try rfl))<|jE [[],[],[],[],[],[]]) (fun _=>?_)
   refine oN ?_
   refine aG (aA ?_)
   refine lK [(1,(pt (nb ρ1 0))),(2,vF),(3,(vn ks.length)),(30,vF)] [(nb ρ1 0,(cL (iC kd m ((nu:Nat):Int) h (.slice ka ks.length kc)) 50))] ?_
   exact wQ J1 () (⟨(by have:=iK hb8;have:=dD hb9;have:=yT hb12;omega),(by have:=iK hb8;have:=dD hb9;have:=yT hb12;omega)⟩) (fun w hS=>hS)
  refine sS Tryz.f34 24 [1,2,3,30] [] (fun _=>[jp (nb ρ1 0) 2,vu nu,vT,vT,pt (nb ρ1 0),vi kd,vF,vF,vF,undef,undef,undef,vF,vF,jp (nb ρ1 0) 3,.agg (hB h),.agg (hB 0),vT,vT,pt (nb ρ1 0),vi kd,vT,vT,vT]) (fun _=>[]) (cR [[],[0]]<|cA (fun _=>vT) (fun _=>congrArg Value.bool hb8)<|cR [[],[],[0]]<|cA (fun _=>vF) (fun _=>congrArg Value.bool hb9)<|cR [[],[],[],[],[],[],[],[],[0],[]]<|cB (a:=fun ρ=>(.agg (hB h))) (b:=fun ρ=>(.agg (hB 0))) (v:=fun ρ=>vT) .neq 47 (fun _ _=>(neqH h 0 hh (by decide +kernel) _).trans (by rw [hb12];try rfl))<|cR [[],[],[0]]<|jQ (fun ρ=>(kd != 5)) true (fun _=>(show (kd != 5)=true by rw [dD hb9];rfl))<|jE [[],[]]) (fun _=>?_)
  refine oY ?_
  refine jJ Tryz.f34 1 [1,2,3] [vF] (aF (aC ?_))
  exact mR (v:=vF) (fun _ hS=>⟨jB (qU (by have:=iK hb8;have:=dD hb9;have:=yF hb12;unfold o7;omega)),hS.bel⟩)
 rcases Bool.eq_false_or_eq_true (decide (h=0)) with hb13 | hb13
 ·
  refine sS Tryz.f34 24 [1,2,3,30] [] (fun _=>[jp (nb ρ1 0) 2,vu nu,vF,vF,undef,undef,undef,vF,vF,undef,undef,undef,vF,vF,jp (nb ρ1 0) 3,.agg (hB h),.agg (hB 0),vF,vF,undef,undef,undef,vF,vF]) (fun _=>[]) (cR [[],[0]]<|cA (fun _=>vF) (fun _=>congrArg Value.bool hb8)<|cR [[],[],[],[],[],[],[],[],[],[],[],[],[0],[]]<|cB (a:=fun ρ=>(.agg (hB h))) (b:=fun ρ=>(.agg (hB 0))) (v:=fun ρ=>vF) .neq 47 (fun _ _=>(neqH h 0 hh (by decide +kernel) _).trans (by rw [hb13];try rfl))<|jE [[],[],[],[],[],[]]) (fun _=>?_)
  refine oN ?_
  refine aG (aA ?_)
  refine lK [(1,(pt (nb ρ1 0))),(2,vF),(3,(vn ks.length)),(30,vF)] [(nb ρ1 0,(cL (iC kd m ((nu:Nat):Int) h (.slice ka ks.length kc)) 50))] ?_
  exact wQ J1 () (⟨(by have:=dD hb8;have:=yT hb13;omega),(by have:=dD hb8;have:=yT hb13;omega)⟩) (fun w hS=>hS)
 refine sS Tryz.f34 24 [1,2,3,30] [] (fun _=>[jp (nb ρ1 0) 2,vu nu,vF,vF,undef,undef,undef,vF,vF,undef,undef,undef,vF,vF,jp (nb ρ1 0) 3,.agg (hB h),.agg (hB 0),vT,vT,pt (nb ρ1 0),vi kd,.bool (kd != 5),.bool (kd != 5),.bool (kd != 5)]) (fun _=>[]) (cR [[],[0]]<|cA (fun _=>vF) (fun _=>congrArg Value.bool hb8)<|cR [[],[],[],[],[],[],[],[],[],[],[],[],[0],[]]<|cB (a:=fun ρ=>(.agg (hB h))) (b:=fun ρ=>(.agg (hB 0))) (v:=fun ρ=>vT) .neq 47 (fun _ _=>(neqH h 0 hh (by decide +kernel) _).trans (by rw [hb13];try rfl))<|jE [[],[],[0],[],[],[]]) (fun _=>?_)
 refine oC (kd != 5) (fun hb14=>?_) (fun hb14=>?_)
 ·
  rw [hb14]
  refine jJ Tryz.f34 1 [1,2,3] [vF] (aF (aC ?_))
  exact mR (v:=vF) (fun _ hS=>⟨jB (qU (by have:=dD hb8;have:=yF hb13;have:=iK hb14;unfold o7;omega)),hS.bel⟩)
 rw [hb14]
 refine aG (aA ?_)
 refine lK [(1,(pt (nb ρ1 0))),(2,vF),(3,(vn ks.length)),(30,vF)] [(nb ρ1 0,(cL (iC kd m ((nu:Nat):Int) h (.slice ka ks.length kc)) 50))] ?_
 exact wQ J1 () (⟨(by have:=dD hb8;have:=yF hb13;have:=dD hb14;omega),(by have:=dD hb8;have:=yF hb13;have:=dD hb14;omega)⟩) (fun w hS=>hS)
theorem digit_any (c:Nat) (hc:c<256) (w0:World):Calls Tryz.prog 115 #[vy c] w0 (jR (.tuple #[vy (dg c),.bool (dgB c)]) w0):=by
 refine Calls.of_ok (n:=33) (F:=(fun _=>True)) Tryz.func115 rfl rfl rfl (by simp) jT ?_
 refine jJ Tryz.f115 2 [0,2,3] [.int .u8 0,vF] (aB (aI ?_))
 rcases Bool.eq_false_or_eq_true (decide (48≤((c:Nat):Int))) with hb1 | hb1
 ·
  refine sS Tryz.f115 7 [0,2,3,4] [] (fun _=>let qa:Value:=.bool (decide (((c:Nat):Int)≤57));[vy c,vT,vT,vy c,qa,qa,qa]) (fun _=>[]) (cR [[]]<|cA (fun _=>vT) (fun _=>congrArg Value.bool hb1)<|jE [[],[],[],[],[]]) (fun _=>?_)
  refine oC (decide (((c:Nat):Int)≤57)) (fun hb2=>?_) (fun hb2=>?_)
  ·
   rw [hb2]
   have:=yT hb2
   refine sS Tryz.f115 4 [2,3] [] (fun _=>let qa:Value:=.int .u8 (((c:Nat):Int)-48);[vy c,qa,qa,vT]) (fun _=>[]) (cR [[]]<|cA (v:=fun ρ=>(.int .u8 (IntKind.u8.wrap (((c:Nat):Int)-48)))) (fun _=>(.int .u8 (((c:Nat):Int)-48))) (fun _=>congrArg (Value.int .u8) (u8I (by have:=yT hb1;omega)))<|jE [[],[]]) (fun _=>?_)
   refine aF (aP (aC ?_))
   exact mR (v:=(.tuple #[.int .u8 (((c:Nat):Int)-48),vT])) (fun _ hS=>⟨congrArg Ending.returned (rM (by rw [(dg1 (by have:=yT hb1;omega)).1];have:=yT hb1;omega) (dg1 (by have:=yT hb1;omega)).2.symm),hS.bel⟩)
  rw [hb2]
  have:=yF hb2
  rcases Bool.eq_false_or_eq_true (decide (97≤((c:Nat):Int))) with hb3 | hb3
  ·
   refine sS Tryz.f115 7 [0,2,3,13] [] (fun _=>let qa:Value:=.bool (decide (((c:Nat):Int)≤102));[vy c,vT,vT,vy c,qa,qa,qa]) (fun _=>[]) (cR [[]]<|cA (fun _=>vT) (fun _=>congrArg Value.bool hb3)<|jE [[],[],[],[],[]]) (fun _=>?_)
   refine oC (decide (((c:Nat):Int)≤102)) (fun hb4=>?_) (fun hb4=>?_)
   ·
    rw [hb4]
    have:=yT hb4
    refine sS Tryz.f115 5 [2,3] [] (fun _=>let qa:Value:=.int .u8 ((((c:Nat):Int)-97)+10);[vy c,.int .u8 (((c:Nat):Int)-97),qa,qa,vT]) (fun _=>[]) (cR [[]]<|cA (v:=fun ρ=>(.int .u8 (IntKind.u8.wrap (((c:Nat):Int)-97)))) (fun _=>(.int .u8 (((c:Nat):Int)-97))) (fun _=>congrArg (Value.int .u8) (u8I (by have:=yT hb1;have:=yT hb3;omega)))<|cA (v:=fun ρ=>(.int .u8 (IntKind.u8.wrap ((((c:Nat):Int)-97)+10)))) (fun _=>(.int .u8 ((((c:Nat):Int)-97)+10))) (fun _=>congrArg (Value.int .u8) (u8I (by have:=yT hb1;have:=yT hb3;omega)))<|jE [[],[]]) (fun _=>?_)
    refine aF (aP (aC ?_))
    exact mR (v:=(.tuple #[.int .u8 ((((c:Nat):Int)-97)+10),vT])) (fun _ hS=>⟨congrArg Ending.returned (rM (by rw [(dg2 (by have:=yT hb1;have:=yT hb3;omega) (by have:=yT hb1;have:=yT hb3;omega)).1];have:=yT hb1;have:=yT hb3;omega) (dg2 (by have:=yT hb1;have:=yT hb3;omega) (by have:=yT hb1;have:=yT hb3;omega)).2.symm),hS.bel⟩)
   rw [hb4]
   have:=yF hb4
   rcases Bool.eq_false_or_eq_true (decide (65≤((c:Nat):Int))) with hb5 | hb5
   ·
    refine sS Tryz.f115 7 [0,2,3,23] [] (fun _=>let qa:Value:=.bool (decide (((c:Nat):Int)≤70));[vy c,vT,vT,vy c,qa,qa,qa]) (fun _=>[]) (cR [[]]<|cA (fun _=>vT) (fun _=>congrArg Value.bool hb5)<|jE [[],[],[],[],[]]) (fun _=>?_)
    refine oC (decide (((c:Nat):Int)≤70)) (fun hb6=>?_) (fun hb6=>?_)
    ·
     rw [hb6]
     have:=yT hb6
     refine sS Tryz.f115 5 [2,3] [] (fun _=>let qa:Value:=.int .u8 ((((c:Nat):Int)-65)+10);[vy c,.int .u8 (((c:Nat):Int)-65),qa,qa,vT]) (fun _=>[]) (cR [[]]<|cA (v:=fun ρ=>(.int .u8 (IntKind.u8.wrap (((c:Nat):Int)-65)))) (fun _=>(.int .u8 (((c:Nat):Int)-65))) (fun _=>congrArg (Value.int .u8) (u8I (by have:=yT hb1;have:=yT hb3;have:=yT hb5;omega)))<|cA (v:=fun ρ=>(.int .u8 (IntKind.u8.wrap ((((c:Nat):Int)-65)+10)))) (fun _=>(.int .u8 ((((c:Nat):Int)-65)+10))) (fun _=>congrArg (Value.int .u8) (u8I (by have:=yT hb1;have:=yT hb3;have:=yT hb5;omega)))<|jE [[],[]]) (fun _=>?_)
     refine aF (aP (aC ?_))
     exact mR (v:=(.tuple #[.int .u8 ((((c:Nat):Int)-65)+10),vT])) (fun _ hS=>⟨congrArg Ending.returned (rM (by rw [(dg3 (by have:=yT hb1;have:=yT hb3;have:=yT hb5;omega) (by have:=yT hb1;have:=yT hb3;have:=yT hb5;omega) (by have:=yT hb1;have:=yT hb3;have:=yT hb5;omega)).1];have:=yT hb1;have:=yT hb3;have:=yT hb5;omega) (dg3 (by have:=yT hb1;have:=yT hb3;have:=yT hb5;omega) (by have:=yT hb1;have:=yT hb3;have:=yT hb5;omega) (by have:=yT hb1;have:=yT hb3;have:=yT hb5;omega)).2.symm),hS.bel⟩)
    rw [hb6]
    have:=yF hb6
    refine aG (aJ (aA (jJ Tryz.f115 2 [2,3] [.int .u8 0,vF] (aF ?_))))
    exact mR (v:=(.tuple #[.int .u8 0,vF])) (fun _ hS=>⟨congrArg Ending.returned (rM (by rw [(dg0 (by have:=yT hb1;have:=yT hb3;have:=yT hb5;omega) (by have:=yT hb1;have:=yT hb3;have:=yT hb5;omega) (by have:=yT hb1;have:=yT hb3;have:=yT hb5;omega)).1];rfl) (dg0 (by have:=yT hb1;have:=yT hb3;have:=yT hb5;omega) (by have:=yT hb1;have:=yT hb3;have:=yT hb5;omega) (by have:=yT hb1;have:=yT hb3;have:=yT hb5;omega)).2.symm),hS.bel⟩)
   refine sS Tryz.f115 7 [0,2,3,23] [] (fun _=>[vy c,vF,vF,undef,undef,vF,vF]) (fun _=>[]) (cR [[]]<|cA (fun _=>vF) (fun _=>congrArg Value.bool hb5)<|jE [[],[],[],[],[]]) (fun _=>?_)
   refine oN ?_
   refine aG (aJ (aA (jJ Tryz.f115 2 [2,3] [.int .u8 0,vF] (aF ?_))))
   exact mR (v:=(.tuple #[.int .u8 0,vF])) (fun _ hS=>⟨congrArg Ending.returned (rM (by rw [(dg0 (by have:=yT hb1;have:=yT hb3;have:=yF hb5;omega) (by have:=yT hb1;have:=yT hb3;have:=yF hb5;omega) (by have:=yT hb1;have:=yT hb3;have:=yF hb5;omega)).1];rfl) (dg0 (by have:=yT hb1;have:=yT hb3;have:=yF hb5;omega) (by have:=yT hb1;have:=yT hb3;have:=yF hb5;omega) (by have:=yT hb1;have:=yT hb3;have:=yF hb5;omega)).2.symm),hS.bel⟩)
  refine sS Tryz.f115 7 [0,2,3,13] [] (fun _=>[vy c,vF,vF,undef,undef,vF,vF]) (fun _=>[]) (cR [[]]<|cA (fun _=>vF) (fun _=>congrArg Value.bool hb3)<|jE [[],[],[],[],[]]) (fun _=>?_)
  refine oN ?_
  rcases Bool.eq_false_or_eq_true (decide (65≤((c:Nat):Int))) with hb7 | hb7
  ·
   refine sS Tryz.f115 7 [0,2,3,23] [] (fun _=>let qa:Value:=.bool (decide (((c:Nat):Int)≤70));[vy c,vT,vT,vy c,qa,qa,qa]) (fun _=>[]) (cR [[]]<|cA (fun _=>vT) (fun _=>congrArg Value.bool hb7)<|jE [[],[],[],[],[]]) (fun _=>?_)
   refine oC (decide (((c:Nat):Int)≤70)) (fun hb8=>?_) (fun hb8=>?_)
   ·
    rw [hb8]
    have:=yT hb8
    refine sS Tryz.f115 5 [2,3] [] (fun _=>let qa:Value:=.int .u8 ((((c:Nat):Int)-65)+10);[vy c,.int .u8 (((c:Nat):Int)-65),qa,qa,vT]) (fun _=>[]) (cR [[]]<|cA (v:=fun ρ=>(.int .u8 (IntKind.u8.wrap (((c:Nat):Int)-65)))) (fun _=>(.int .u8 (((c:Nat):Int)-65))) (fun _=>congrArg (Value.int .u8) (u8I (by have:=yT hb1;have:=yF hb3;have:=yT hb7;omega)))<|cA (v:=fun ρ=>(.int .u8 (IntKind.u8.wrap ((((c:Nat):Int)-65)+10)))) (fun _=>(.int .u8 ((((c:Nat):Int)-65)+10))) (fun _=>congrArg (Value.int .u8) (u8I (by have:=yT hb1;have:=yF hb3;have:=yT hb7;omega)))<|jE [[],[]]) (fun _=>?_)
    refine aF (aP (aC ?_))
    exact mR (v:=(.tuple #[.int .u8 ((((c:Nat):Int)-65)+10),vT])) (fun _ hS=>⟨congrArg Ending.returned (rM (by rw [(dg3 (by have:=yT hb1;have:=yF hb3;have:=yT hb7;omega) (by have:=yT hb1;have:=yF hb3;have:=yT hb7;omega) (by have:=yT hb1;have:=yF hb3;have:=yT hb7;omega)).1];have:=yT hb1;have:=yF hb3;have:=yT hb7;omega) (dg3 (by have:=yT hb1;have:=yF hb3;have:=yT hb7;omega) (by have:=yT hb1;have:=yF hb3;have:=yT hb7;omega) (by have:=yT hb1;have:=yF hb3;have:=yT hb7;omega)).2.symm),hS.bel⟩)
   rw [hb8]
   have:=yF hb8
   refine aG (aJ (aA (jJ Tryz.f115 2 [2,3] [.int .u8 0,vF] (aF ?_))))
   exact mR (v:=(.tuple #[.int .u8 0,vF])) (fun _ hS=>⟨congrArg Ending.returned (rM (by rw [(dg0 (by have:=yT hb1;have:=yF hb3;have:=yT hb7;omega) (by have:=yT hb1;have:=yF hb3;have:=yT hb7;omega) (by have:=yT hb1;have:=yF hb3;have:=yT hb7;omega)).1];rfl) (dg0 (by have:=yT hb1;have:=yF hb3;have:=yT hb7;omega) (by have:=yT hb1;have:=yF hb3;have:=yT hb7;omega) (by have:=yT hb1;have:=yF hb3;have:=yT hb7;omega)).2.symm),hS.bel⟩)
  refine sS Tryz.f115 7 [0,2,3,23] [] (fun _=>[vy c,vF,vF,undef,undef,vF,vF]) (fun _=>[]) (cR [[]]<|cA (fun _=>vF) (fun _=>congrArg Value.bool hb7)<|jE [[],[],[],[],[]]) (fun _=>?_)
  refine oN ?_
  refine aG (aJ (aA (jJ Tryz.f115 2 [2,3] [.int .u8 0,vF] (aF ?_))))
  exact mR (v:=(.tuple #[.int .u8 0,vF])) (fun _ hS=>⟨congrArg Ending.returned (rM (by rw [(dg0 (by have:=yT hb1;have:=yF hb3;have:=yF hb7;omega) (by have:=yT hb1;have:=yF hb3;have:=yF hb7;omega) (by have:=yT hb1;have:=yF hb3;have:=yF hb7;omega)).1];rfl) (dg0 (by have:=yT hb1;have:=yF hb3;have:=yF hb7;omega) (by have:=yT hb1;have:=yF hb3;have:=yF hb7;omega) (by have:=yT hb1;have:=yF hb3;have:=yF hb7;omega)).2.symm),hS.bel⟩)
 refine sS Tryz.f115 7 [0,2,3,4] [] (fun _=>[vy c,vF,vF,undef,undef,vF,vF]) (fun _=>[]) (cR [[]]<|cA (fun _=>vF) (fun _=>congrArg Value.bool hb1)<|jE [[],[],[],[],[]]) (fun _=>?_)
 refine oN ?_
 rcases Bool.eq_false_or_eq_true (decide (97≤((c:Nat):Int))) with hb9 | hb9
 ·
  refine sS Tryz.f115 7 [0,2,3,13] [] (fun _=>let qa:Value:=.bool (decide (((c:Nat):Int)≤102));[vy c,vT,vT,vy c,qa,qa,qa]) (fun _=>[]) (cR [[]]<|cA (fun _=>vT) (fun _=>congrArg Value.bool hb9)<|jE [[],[],[],[],[]]) (fun _=>?_)
  refine oC (decide (((c:Nat):Int)≤102)) (fun hb10=>?_) (fun hb10=>?_)
  ·
   rw [hb10]
   have:=yT hb10
   refine sS Tryz.f115 5 [2,3] [] (fun _=>let qa:Value:=.int .u8 ((((c:Nat):Int)-97)+10);[vy c,.int .u8 (((c:Nat):Int)-97),qa,qa,vT]) (fun _=>[]) (cR [[]]<|cA (v:=fun ρ=>(.int .u8 (IntKind.u8.wrap (((c:Nat):Int)-97)))) (fun _=>(.int .u8 (((c:Nat):Int)-97))) (fun _=>congrArg (Value.int .u8) (u8I (by have:=yF hb1;have:=yT hb9;omega)))<|cA (v:=fun ρ=>(.int .u8 (IntKind.u8.wrap ((((c:Nat):Int)-97)+10)))) (fun _=>(.int .u8 ((((c:Nat):Int)-97)+10))) (fun _=>congrArg (Value.int .u8) (u8I (by have:=yF hb1;have:=yT hb9;omega)))<|jE [[],[]]) (fun _=>?_)
   refine aF (aP (aC ?_))
   exact mR (v:=(.tuple #[.int .u8 ((((c:Nat):Int)-97)+10),vT])) (fun _ hS=>⟨congrArg Ending.returned (rM (by rw [(dg2 (by have:=yF hb1;have:=yT hb9;omega) (by have:=yF hb1;have:=yT hb9;omega)).1];have:=yF hb1;have:=yT hb9;omega) (dg2 (by have:=yF hb1;have:=yT hb9;omega) (by have:=yF hb1;have:=yT hb9;omega)).2.symm),hS.bel⟩)
  rw [hb10]
  have:=yF hb10
  rcases Bool.eq_false_or_eq_true (decide (65≤((c:Nat):Int))) with hb11 | hb11
  ·
   refine sS Tryz.f115 7 [0,2,3,23] [] (fun _=>let qa:Value:=.bool (decide (((c:Nat):Int)≤70));[vy c,vT,vT,vy c,qa,qa,qa]) (fun _=>[]) (cR [[]]<|cA (fun _=>vT) (fun _=>congrArg Value.bool hb11)<|jE [[],[],[],[],[]]) (fun _=>?_)
   refine oC (decide (((c:Nat):Int)≤70)) (fun hb12=>?_) (fun hb12=>?_)
   ·
    rw [hb12]
    have:=yT hb12
    refine sS Tryz.f115 5 [2,3] [] (fun _=>let qa:Value:=.int .u8 ((((c:Nat):Int)-65)+10);[vy c,.int .u8 (((c:Nat):Int)-65),qa,qa,vT]) (fun _=>[]) (cR [[]]<|cA (v:=fun ρ=>(.int .u8 (IntKind.u8.wrap (((c:Nat):Int)-65)))) (fun _=>(.int .u8 (((c:Nat):Int)-65))) (fun _=>congrArg (Value.int .u8) (u8I (by have:=yF hb1;have:=yT hb9;have:=yT hb11;omega)))<|cA (v:=fun ρ=>(.int .u8 (IntKind.u8.wrap ((((c:Nat):Int)-65)+10)))) (fun _=>(.int .u8 ((((c:Nat):Int)-65)+10))) (fun _=>congrArg (Value.int .u8) (u8I (by have:=yF hb1;have:=yT hb9;have:=yT hb11;omega)))<|jE [[],[]]) (fun _=>?_)
    refine aF (aP (aC ?_))
    exact mR (v:=(.tuple #[.int .u8 ((((c:Nat):Int)-65)+10),vT])) (fun _ hS=>⟨congrArg Ending.returned (rM (by rw [(dg3 (by have:=yF hb1;have:=yT hb9;have:=yT hb11;omega) (by have:=yF hb1;have:=yT hb9;have:=yT hb11;omega) (by have:=yF hb1;have:=yT hb9;have:=yT hb11;omega)).1];have:=yF hb1;have:=yT hb9;have:=yT hb11;omega) (dg3 (by have:=yF hb1;have:=yT hb9;have:=yT hb11;omega) (by have:=yF hb1;have:=yT hb9;have:=yT hb11;omega) (by have:=yF hb1;have:=yT hb9;have:=yT hb11;omega)).2.symm),hS.bel⟩)
   rw [hb12]
   have:=yF hb12
   refine aG (aJ (aA (jJ Tryz.f115 2 [2,3] [.int .u8 0,vF] (aF ?_))))
   exact mR (v:=(.tuple #[.int .u8 0,vF])) (fun _ hS=>⟨congrArg Ending.returned (rM (by rw [(dg0 (by have:=yF hb1;have:=yT hb9;have:=yT hb11;omega) (by have:=yF hb1;have:=yT hb9;have:=yT hb11;omega) (by have:=yF hb1;have:=yT hb9;have:=yT hb11;omega)).1];rfl) (dg0 (by have:=yF hb1;have:=yT hb9;have:=yT hb11;omega) (by have:=yF hb1;have:=yT hb9;have:=yT hb11;omega) (by have:=yF hb1;have:=yT hb9;have:=yT hb11;omega)).2.symm),hS.bel⟩)
  refine sS Tryz.f115 7 [0,2,3,23] [] (fun _=>[vy c,vF,vF,undef,undef,vF,vF]) (fun _=>[]) (cR [[]]<|cA (fun _=>vF) (fun _=>congrArg Value.bool hb11)<|jE [[],[],[],[],[]]) (fun _=>?_)
  refine oN ?_
  refine aG (aJ (aA (jJ Tryz.f115 2 [2,3] [.int .u8 0,vF] (aF ?_))))
  exact mR (v:=(.tuple #[.int .u8 0,vF])) (fun _ hS=>⟨congrArg Ending.returned (rM (by rw [(dg0 (by have:=yF hb1;have:=yT hb9;have:=yF hb11;omega) (by have:=yF hb1;have:=yT hb9;have:=yF hb11;omega) (by have:=yF hb1;have:=yT hb9;have:=yF hb11;omega)).1];rfl) (dg0 (by have:=yF hb1;have:=yT hb9;have:=yF hb11;omega) (by have:=yF hb1;have:=yT hb9;have:=yF hb11;omega) (by have:=yF hb1;have:=yT hb9;have:=yF hb11;omega)).2.symm),hS.bel⟩)
 refine sS Tryz.f115 7 [0,2,3,13] [] (fun _=>[vy c,vF,vF,undef,undef,vF,vF]) (fun _=>[]) (cR [[]]<|cA (fun _=>vF) (fun _=>congrArg Value.bool hb9)<|jE [[],[],[],[],[]]) (fun _=>?_)
 refine oN ?_
 rcases Bool.eq_false_or_eq_true (decide (65≤((c:Nat):Int))) with hb13 | hb13
 ·
  refine sS Tryz.f115 7 [0,2,3,23] [] (fun _=>let qa:Value:=.bool (decide (((c:Nat):Int)≤70));[vy c,vT,vT,vy c,qa,qa,qa]) (fun _=>[]) (cR [[]]<|cA (fun _=>vT) (fun _=>congrArg Value.bool hb13)<|jE [[],[],[],[],[]]) (fun _=>?_)
  refine oC (decide (((c:Nat):Int)≤70)) (fun hb14=>?_) (fun hb14=>?_)
  ·
   rw [hb14]
   have:=yT hb14
   refine sS Tryz.f115 5 [2,3] [] (fun _=>let qa:Value:=.int .u8 ((((c:Nat):Int)-65)+10);[vy c,.int .u8 (((c:Nat):Int)-65),qa,qa,vT]) (fun _=>[]) (cR [[]]<|cA (v:=fun ρ=>(.int .u8 (IntKind.u8.wrap (((c:Nat):Int)-65)))) (fun _=>(.int .u8 (((c:Nat):Int)-65))) (fun _=>congrArg (Value.int .u8) (u8I (by have:=yF hb1;have:=yF hb9;have:=yT hb13;omega)))<|cA (v:=fun ρ=>(.int .u8 (IntKind.u8.wrap ((((c:Nat):Int)-65)+10)))) (fun _=>(.int .u8 ((((c:Nat):Int)-65)+10))) (fun _=>congrArg (Value.int .u8) (u8I (by have:=yF hb1;have:=yF hb9;have:=yT hb13;omega)))<|jE [[],[]]) (fun _=>?_)
   refine aF (aP (aC ?_))
   exact mR (v:=(.tuple #[.int .u8 ((((c:Nat):Int)-65)+10),vT])) (fun _ hS=>⟨congrArg Ending.returned (rM (by rw [(dg3 (by have:=yF hb1;have:=yF hb9;have:=yT hb13;omega) (by have:=yF hb1;have:=yF hb9;have:=yT hb13;omega) (by have:=yF hb1;have:=yF hb9;have:=yT hb13;omega)).1];have:=yF hb1;have:=yF hb9;have:=yT hb13;omega) (dg3 (by have:=yF hb1;have:=yF hb9;have:=yT hb13;omega) (by have:=yF hb1;have:=yF hb9;have:=yT hb13;omega) (by have:=yF hb1;have:=yF hb9;have:=yT hb13;omega)).2.symm),hS.bel⟩)
  rw [hb14]
  have:=yF hb14
  refine aG (aJ (aA (jJ Tryz.f115 2 [2,3] [.int .u8 0,vF] (aF ?_))))
  exact mR (v:=(.tuple #[.int .u8 0,vF])) (fun _ hS=>⟨congrArg Ending.returned (rM (by rw [(dg0 (by have:=yF hb1;have:=yF hb9;have:=yT hb13;omega) (by have:=yF hb1;have:=yF hb9;have:=yT hb13;omega) (by have:=yF hb1;have:=yF hb9;have:=yT hb13;omega)).1];rfl) (dg0 (by have:=yF hb1;have:=yF hb9;have:=yT hb13;omega) (by have:=yF hb1;have:=yF hb9;have:=yT hb13;omega) (by have:=yF hb1;have:=yF hb9;have:=yT hb13;omega)).2.symm),hS.bel⟩)
 refine sS Tryz.f115 7 [0,2,3,23] [] (fun _=>[vy c,vF,vF,undef,undef,vF,vF]) (fun _=>[]) (cR [[]]<|cA (fun _=>vF) (fun _=>congrArg Value.bool hb13)<|jE [[],[],[],[],[]]) (fun _=>?_)
 refine oN ?_
 refine aG (aJ (aA (jJ Tryz.f115 2 [2,3] [.int .u8 0,vF] (aF ?_))))
 exact mR (v:=(.tuple #[.int .u8 0,vF])) (fun _ hS=>⟨congrArg Ending.returned (rM (by rw [(dg0 (by have:=yF hb1;have:=yF hb9;have:=yF hb13;omega) (by have:=yF hb1;have:=yF hb9;have:=yF hb13;omega) (by have:=yF hb1;have:=yF hb9;have:=yF hb13;omega)).1];rfl) (dg0 (by have:=yF hb1;have:=yF hb9;have:=yF hb13;omega) (by have:=yF hb1;have:=yF hb9;have:=yF hb13;omega) (by have:=yF hb1;have:=yF hb9;have:=yF hb13;omega)).2.symm),hS.bel⟩)
theorem hex_any (a:Option Addr) (c:Nat) (B:List UInt8) (h46:B.length≤70368744175616) (w0:World) (hf0:Bs w0 a c B):Calls Tryz.prog 28 #[.slice a B.length c] w0 (jR (.string (gY (l7 B))) w0):=by
 refine Calls.of_ok (n:=28) (F:=(fun w=>Bs w a c B∧True)) Tryz.func28 rfl rfl rfl (by simp) (hf0.pers0.and cO) ?_
 refine jJ Tryz.f28 1 [0,2] [.string ⟨#[]⟩] ?_
 refine sS Tryz.f28 5 [0,2,3] [] (fun ρ=>let qa:=vs (nb ρ 3) ([]:List UInt8).length (2*B.length);[.slice a B.length c,vn B.length,vn (2*B.length),qa,qa]) (fun ρ=>[(3,(nw ρ 3 (cL (zB (2*B.length)) 5)))]) (cR [[],[]]<|jW (fun ρ=>(2*((B.length:Nat):Int))) (fun _=>(2*B.length)) (fun _=>(fQ 2 B.length (by omega)))<|cX (uB _ (fun _=>do pure (Next.value (← Instr.makeSlice 35 (vi 0) (vn (2*B.length))))) (fun _ ζ=>(vs (ζ.headD 0) ([]:List UInt8).length (2*B.length))) (fun _ _=>(cL (zB (2*B.length)) 5)) (fun _ _=>(by kernel_rfl)) (fun _=>(by kernel_rfl)) (fun _ _=>trivial) (fun _ _ w _=>mM Tryz.underlying35 nH ([]:List UInt8) (rfl) (rfl) (Nat.zero_le _) (by omega) w))<|jE [[]]) (fun ρ2=>?_)
 refine aB (jJ Tryz.f28 3 [2,3,10,11,12] [.slice a B.length c,vn B.length,vi 0] (aI ?_))
 refine oL (σ:=Nat × (List UInt8) × (Array Value)) (fun ⟨i,X,_⟩=>[(2,(.string ⟨#[]⟩)),(3,(vs (nb ρ2 3) X.length (2*B.length))),(10,(.slice a B.length c)),(11,(vn B.length)),(12,(vn i))]) (fun ⟨_,_,C⟩=>[(nb ρ2 3,(cL C 5))]) (fun ⟨i,_,_⟩=>B.length-i)
   (fun ⟨i,X,C⟩=>(i≤B.length)∧(X=l7 (B.take i))∧(Hd C X)∧(C.size=2*B.length)) (0,([]:List UInt8),zB (2*B.length)) (⟨Nat.zero_le _,rfl,Hd.nil _,oD _⟩) [] ?_
 rintro ⟨i,X,C⟩ ⟨hi,hX,hC,hs⟩
 change Ok Tryz.prog _ _ 28 [(2,(.string ⟨#[]⟩)),(3,(vs (nb ρ2 3) X.length (2*B.length))),(10,(.slice a B.length c)),(11,(vn B.length)),(12,(vn i))] _ [(nb ρ2 3,(cL C 5))] (fun w=>Bs w a c B∧True)
 refine jJ Tryz.f28 1 [2,3,10,11,12,13] [.bool (decide (((i:Nat):Int)<((B.length:Nat):Int)))] (aB ?_)
 refine oC (decide (((i:Nat):Int)<((B.length:Nat):Int))) (fun hb1=>?_) (fun hb1=>?_)
 ·
  rw [hb1]
  have:=yT hb1
  refine aG (aA (aB (aI ?_)))
  refine sS Tryz.f28 3 [2,3,5,10,11,12] [] (fun _=>[.pointer (fK a i),vy (gB B i),vy (gB B i)]) (fun _=>[]) (cX (qF (fun _ _ _ hG=>uY (k:=.i64) Tryz.underlying35 nH hG.fn.1 rfl (show ((i:Nat):Int)=((i:Nat):Int) from rfl) (show i<B.length from (by have:=wG hi hX;omega))))<|cX (qF (fun _ _ _ hG=>wH Tryz.isAgg5 hG.fn.1 (show i<B.length from (by have:=wG hi hX;omega))))<|jE [[]]) (fun _=>?_)
  refine rD Tryz.f28 [0,0,2,6,0,16,48,126,255,511] 10 [2,3,10,11,12] [1,0] (fun ρ=>let qa:=([ob ((hexD (gB B i / 16):Nat):Int),ob ((hexD (gB B i%16):Nat):Int)]:List UInt8);let qb:=vs (nb ρ2 3) (X++qa).length (2*B.length);[vs (nb ρ2 3) X.length (2*B.length),vy (gB B i),vy (gB B i / 16),vy (hexD (gB B i / 16)),vy (gB B i),vy (gB B i%16),vy (hexD (gB B i%16)),vs (nb ρ 7) qa.length 2,qb,qb]) (fun ρ=>[(7,(nw ρ 7 (cL #[vy (hexD (gB B i / 16)),vy (hexD (gB B i%16))] 5))),(8,(bD 0 (nb ρ2 3) (cL (inpl C X.length (bs ([ob ((hexD (gB B i / 16):Nat):Int),ob ((hexD (gB B i%16):Nat):Int)]:List UInt8))) 5)))]) (cR [[],[]]<|cB (a:=fun ρ=>(vy (gB B i))) (b:=fun ρ=>(.int .u64 4)) (v:=fun ρ=>(vy (gB B i / 16))) .shr 5 (fun _ w=>gG (k:=.u8) (x:=gB B i) (c:=4) (iD B i) w)<|cX (jS (fun _=>Instr.index 9 (.string (gY ([48,49,50,51,52,53,54,55,56,57,97,98,99,100,101,102]:List UInt8))) (vy (gB B i / 16))) (fun _=>(vy (hexD (gB B i / 16)))) (fun _ w=>(vI (S:=([48,49,50,51,52,53,54,55,56,57,97,98,99,100,101,102]:List UInt8)) Tryz.underlying9 (show ((gB B i / 16:Nat):Int)=(((gB B i / 16):Nat):Int) from rfl) (show (gB B i / 16)<([48,49,50,51,52,53,54,55,56,57,97,98,99,100,101,102]:List UInt8).length from (by have:=iD B i;show gB B i / 16<16;omega)) w).trans (by rw [gB_dig (show gB B i / 16<16 by have:=iD B i;omega)])))<|cR [[]]<|cA (fun _=>(vy (gB B i%16))) (fun _=>congrArg (Value.int .u8) (and15 (iD B i)))<|cX (jS (fun _=>Instr.index 9 (.string (gY ([48,49,50,51,52,53,54,55,56,57,97,98,99,100,101,102]:List UInt8))) (vy (gB B i%16))) (fun _=>(vy (hexD (gB B i%16)))) (fun _ w=>(vI (S:=([48,49,50,51,52,53,54,55,56,57,97,98,99,100,101,102]:List UInt8)) Tryz.underlying9 (show ((gB B i%16:Nat):Int)=(((gB B i%16):Nat):Int) from rfl) (show (gB B i%16)<([48,49,50,51,52,53,54,55,56,57,97,98,99,100,101,102]:List UInt8).length from (by have:=iD B i;show gB B i%16<16;omega)) w).trans (by rw [gB_dig (show gB B i%16<16 by have:=iD B i;omega)])))<|cR [[]]<|cX (o9 _ 0 (fun ρ=>do pure (Next.value (← Builtin.append_ #[35,35] 35 #[vs (nb ρ2 3) X.length (2*B.length),vs (nb ρ 7) ([ob ((hexD (gB B i / 16):Nat):Int),ob ((hexD (gB B i%16):Nat):Int)]:List UInt8).length 2]))) (fun _=>nb ρ2 3) (fun _=>(cL C 5)) (fun _=>(cL (inpl C X.length (bs ([ob ((hexD (gB B i / 16):Nat):Int),ob ((hexD (gB B i%16):Nat):Int)]:List UInt8))) 5)) (fun _=>(vs (nb ρ2 3) (X++([ob ((hexD (gB B i / 16):Nat):Int),ob ((hexD (gB B i%16):Nat):Int)]:List UInt8)).length (2*B.length))) (fun _=>(by kernel_rfl)) (fun _=>(by kernel_rfl)) (fun _=>(by kernel_rfl)) (fun _=>(by kernel_rfl)) (fun _ _=>trivial) (fun ρ _ _ hG hg=>kD Tryz.underlying35 nH hg (Bs.src (tx:=35) Tryz.underlying35 (Bs.of_hd (hG.kn (g:=nb ρ 7) (o:=(cL #[vy (hexD (gB B i / 16)),vy (hexD (gB B i%16))] 5)) 57) (hd2 (hexD_rng (by have:=iD B i;omega)) (hexD_rng (by have:=iD B i;omega))) (Nat.le_refl 2) (Nat.le_of_ble_eq_true rfl))) hs (by simp only [List.length_cons,List.length_nil];have:=wG hi hX;omega)))<|jE [[]]) (fun _=>?_)
  refine aJ (aA ?_)
  refine rS Tryz.f28 2 [2,3,10,11,12] [] (fun _=>[vn (i+1),vn (i+1)]) (fun _=>[]) (jW (fun ρ=>(((i:Nat):Int)+1)) (fun _=>(i+1)) (fun _=>(aW i 1 (by have:=wG hi hX;omega)))<|jE [[]]) (fun _=>?_)
  exact mN (i+1,X++([ob ((hexD (gB B i / 16):Nat):Int),ob ((hexD (gB B i%16):Nat):Int)]:List UInt8),inpl C X.length (bs ([ob ((hexD (gB B i / 16):Nat):Int),ob ((hexD (gB B i%16):Nat):Int)]:List UInt8))) (by show B.length-(i+1)<B.length-i;have:=wG hi hX;omega) (⟨(by have:=wG hi hX;omega),hx_next (by have:=wG hi hX;omega) hX,Hd.inpl hC rfl,(lG _ _ _ (room_le hs (by simp only [List.length_cons,List.length_nil];have:=wG hi hX;omega))).trans hs⟩) []
 rw [hb1]
 refine bF (aN (aN (aT (aA ?_))))
 refine sS Tryz.f28 3 [2] [0] (fun _=>[vs (nb ρ2 3) X.length (2*B.length),.string (gY X),.string (gY X)]) (fun _=>[]) (cR [[]]<|cX (jF (fun _=>convert 35 9 (vs (nb ρ2 3) X.length (2*B.length))) (fun _=>(.string (gY X))) (fun _ _ _ hG=>xAX (xs:=X) Tryz.underlying35 Tryz.underlying5 Tryz.underlying9 (Bs.of_hd (hG.kn (g:=nb ρ2 3) (o:=(cL C 5)) 0) hC (by have:=wG hi hX;omega) (by have:=wG hi hX;omega)) rfl) (fun _ _ _ _=>cO))<|jE [[]]) (fun _=>?_)
 refine aF ?_
 exact mR (v:=(.string (gY X))) (fun _ hS=>⟨congrArg (fun x=>Ending.returned (.string (gY x))) (hx_end (by have:=yF hb1;have:=wG hi hX;omega) hX),hS.bel⟩)
theorem dsum_any (S:List UInt8) (hS:S.length+1000≤140737488351232) (w0:World) (hf0:kJ w0) (hf1:fU w0):Calls Tryz.prog 12 #[.string (gY S)] w0 (jR (.string (gY (l7 ((hL (lV xU S)).take 4)))) w0):=by
 refine Calls.of_ok (n:=9) (F:=(fun w=>kJ w∧fU w∧True)) Tryz.func12 rfl rfl rfl (by simp) (hf0.pers0.and (hf1.pers0.and cO)) ?_
 refine jJ Tryz.f12 1 [0,2] [.string ⟨#[]⟩] ?_
 refine iZ Tryz.f12 5 [2,3] [] (fun ρ=>[.string (gY S),.slice (oa ρ 1) S.length (nb ρ 1),.agg (hB (lV xU S)),pt (nb ρ 3),undef]) (fun ρ=>[(3,(nw ρ 3 (cL (hB 0) 47))),(4,(bD 24 (nb ρ 3) (cL (hB (lV xU S)) 47)))]) (fun ρ=>[(1,fun w=>Fs w0 w (oa ρ 1) (nb ρ 1) S)]) (fun ρ=>(fun w=>kJ w∧fU w∧Fs w0 w (oa ρ 1) (nb ρ 1) S∧True)) (fun _=>True) (fun _ _ hF hf=>⟨⟨hF.1,hF.2.1,hf 1,trivial⟩,trivial⟩) (cR [[]]<|cX (o_newF _ (fun _=>do pure (Next.value (← convert 9 35 (.string (gY S))))) (fun _ α κ=>(.slice α S.length κ)) (fun _=>S) (fun _ _=>(by kernel_rfl)) (fun _=>(by kernel_rfl)) (fun _ _=>(by kernel_rfl)) (fun _ _ w _=>bytes_str Tryz.underlying9 Tryz.underlying35 Tryz.underlying5 S (by omega) w))<|cX (qC (fun ρ _ w hG=>yM xU (oa ρ 1) (nb ρ 1) S (by decide) (by omega) w (show Fs w0 w (oa ρ 1) (nb ρ 1) S from (hG.facts 1 rfl).now).1 hG.fn.1 hG.fn.2.1))<|jE [[],[24]]) (fun ρ2 _=>?_)
 refine sS Tryz.f12 3 [2] [0] (fun _=>[vs (nb ρ2 3) ((hL (lV xU S)).take 4).length 32,.string (gY (l7 ((hL (lV xU S)).take 4))),.string (gY (l7 ((hL (lV xU S)).take 4)))]) (fun _=>[]) (cR [[]]<|cX (qC (fun _ _ w hG=>hex_any (some ⟨nb ρ2 3,0,none⟩) 32 ((hL (lV xU S)).take 4) (by rw [List.length_take,aO];decide) w (Bs.of_hd (c:=32) (hG.kn (g:=nb ρ2 3) (o:=(cL (hB (lV xU S)) 47)) 0) (Hd.take (xBR _) _) (Nat.le_of_ble_eq_true rfl) (Nat.le_of_ble_eq_true rfl))))<|jE [[]]) (fun _=>?_)
 refine aF ?_
 exact mR (v:=(.string (gY (l7 ((hL (lV xU S)).take 4))))) (fun _ hS=>⟨rfl,hS.bel⟩)
theorem dsanew_any (dd:Nat) (edd:lV xU ([]:List UInt8)=dd) (w0:World) (hf0:kJ w0) (hf1:fU w0):Calls Tryz.prog 6 #[] w0 (jR vT w0):=by
 refine Calls.of_ok (n:=12) (F:=(fun w=>kJ w∧fU w∧True)) Tryz.func6 rfl rfl rfl (by simp) (hf0.pers0.and (hf1.pers0.and cO)) ?_
 refine jJ Tryz.f6 1 [0] [vF] ?_
 refine sS Tryz.f6 12 [0] [] (fun _=>[vi (nO 6),vT,vT,vi (nO 9),vT,vT,vT,.string (gY (l7 ((hL dd).take 4))),vn (l7 ((hL dd).take 4)).length,vT,vT,vT]) (fun _=>[]) (cC (fun _ w=>oU 6 w)<|jQ (fun ρ=>((nO 6)==2)) true (fun _=>(show ((nO 6)==2)=true from rfl))<|cR [[]]<|cC (fun _ w=>oU 9 w)<|jQ (fun ρ=>((nO 9)==(-1))) true (fun _=>(show ((nO 9)==(-1))=true from rfl))<|cR [[],[]]<|cX (lN _ 12 (fun _=> #[.string ⟨#[]⟩]) (fun _=>(.string (gY (l7 ((hL dd).take 4))))) (fun _ _=>(by kernel_rfl)) (fun _=>(by kernel_rfl)) (fun _ _=>(by kernel_rfl)) (fun _ _=>trivial) (fun _ _ w hG=>(by as_aux_lemma=>(have hcall:=dsum_any ([]:List UInt8) (by decide) w hG.fn.1 hG.fn.2.1;rw [edd] at hcall;exact hcall))))<|cR [[]]<|cA (fun _=>vT) (fun _=>congrArg Value.bool (sum_8 dd))<|jE [[],[]]) (fun _=>?_)
 refine aF ?_
 exact mR (v:=vT) (fun _ hS=>⟨rfl,hS.bel⟩)
theorem dsane_any (w0:World) (hf0:kJ w0) (hf1:fU w0):Calls Tryz.prog 6 #[] w0 (jR vT w0):=dsanew_any _ rfl w0 hf0 hf1
def xB (w:World):Prop:=Lib.TabIs Tryz.prog w "internal/strconv.uint64pow10" .u64 Lib.pow10Tab
theorem xB.pers0 {w:World} (h:xB w):dL (fun _=>False) (fun w=>xB w) w:=by
  have hg:Tryz.prog.globalNamed "internal/strconv.uint64pow10" = some 2:=by kernel_rfl
  unfold xB Lib.TabIs World.var? at h
  simp only [hg,Option.bind_some] at h
  refine ⟨fun b=>b=2,fun b hb=>⟨?_,id⟩,fun w' hw=>?_⟩
  · rw [hb]
    rcases Nat.lt_or_ge 2 w.heap.size with h' | h'
    · exact h'
    · rw [Array.getElem?_eq_none h'] at h;simp at h
  · unfold xB Lib.TabIs World.var?
    simp only [hg,Option.bind_some,hw _ rfl]
    exact h
theorem xBI (u:Nat) (hu:u<18446744073709551616) (w:World) (h:xB w):Calls Tryz.prog 44 #[.int .u64 u,.int .i64 10] w fun e w'=>e=.returned (.string (gY (dS u)))∧Below w.heap.size w w':=fmt_any u hu w h
theorem xBG (p:dO) (hp:p.Ok) (w0:World) (hf0:Is w0 .u32 p.pa p.pc (nI p.ps)) (hf1:xB w0):Calls Tryz.prog 45 #[.agg (dO.row p)] w0 (jR (.string (gY p.tx)) w0):=by
 refine Calls.of_ok (n:=39) (F:=(fun w=>Is w .u32 p.pa p.pc (nI p.ps)∧xB w∧True)) Tryz.func45 rfl rfl rfl (by simp) (hf0.pers0.and (hf1.pers0.and cO)) ?_
 have hlen:(nI p.ps).length≤140737488351232:=hf0.max
 have hnl:(nI p.ps).length=p.ps.length:=fZ p.ps
 refine sS Tryz.f45 2 [1,2] [] (fun ρ=>[pt (nb ρ 0),.string ⟨#[]⟩]) (fun ρ=>[(0,(nw ρ 0 (cL (dO.row p) 59)))]) (jE [[],[]]) (fun ρ1=>?_)
 refine iZ Tryz.f45 5 [1,2,3] [] (fun ρ=>[pt (nb ρ1 0),.agg (kY p.k),.slice (oa ρ 2) (sJ p.k).length (nb ρ 2),.string (gY (l7 (sJ p.k))),.string (gY (l7 (sJ p.k)))]) (fun _=>[]) (fun ρ=>[(2,fun w=>Fs w0 w (oa ρ 2) (nb ρ 2) (sJ p.k))]) (fun ρ=>(fun w=>Is w .u32 p.pa p.pc (nI p.ps)∧xB w∧Fs w0 w (oa ρ 2) (nb ρ 2) (sJ p.k)∧True)) (fun _=>True) (fun _ _ hF hf=>⟨⟨hF.1,hF.2.1,hf 2,trivial⟩,trivial⟩) (cR [[],[0]]<|cX (qB (fun _ _ w _=>kencode_any p.k hp.k w))<|cX (qC (fun ρ _ w hG=>hex_any (oa ρ 2) (nb ρ 2) (sJ p.k) (by rw [xE];decide) w (show Fs w0 w (oa ρ 2) (nb ρ 2) (sJ p.k) from (hG.facts 2 rfl).now).1))<|jE [[]]) (fun ρ2 _=>?_)
 refine aB (jM Tryz.f45 4 [1,2,3,11,12,13] [] [jp (nb ρ1 0) 43,.slice p.pa (nI p.ps).length p.pc,vn (nI p.ps).length,vi 0] [[],[0],[],[]] (aI ?_))
 refine oL (σ:=Nat × (List UInt8)) (fun ⟨i,X⟩=>[(1,(pt (nb ρ1 0))),(2,(.string ⟨#[]⟩)),(3,(.string (gY X))),(11,(.slice p.pa (nI p.ps).length p.pc)),(12,(vn (nI p.ps).length)),(13,(vn i))]) (fun ⟨_,_⟩=>[(nb ρ1 0,(cL (dO.row p) 59))]) (fun ⟨i,_⟩=>(nI p.ps).length-i)
   (fun ⟨i,X⟩=>(i≤(nI p.ps).length)∧(X=l7 (sJ p.k)++paT (p.ps.take i))) (0,l7 (sJ p.k)) (⟨Nat.zero_le _,(List.append_nil _).symm⟩) [] ?_
 rintro ⟨i,X⟩ ⟨hi,hX⟩
 change Ok Tryz.prog _ _ 39 [(1,(pt (nb ρ1 0))),(2,(.string ⟨#[]⟩)),(3,(.string (gY X))),(11,(.slice p.pa (nI p.ps).length p.pc)),(12,(vn (nI p.ps).length)),(13,(vn i))] _ [(nb ρ1 0,(cL (dO.row p) 59))] (fun w=>Is w .u32 p.pa p.pc (nI p.ps)∧xB w∧Fs w0 w (oa ρ2 2) (nb ρ2 2) (sJ p.k)∧True)
 refine jJ Tryz.f45 1 [1,2,3,11,12,13,14] [.bool (decide (((i:Nat):Int)<(((nI p.ps).length:Nat):Int)))] (aB ?_)
 refine oC (decide (((i:Nat):Int)<(((nI p.ps).length:Nat):Int))) (fun hb1=>?_) (fun hb1=>?_)
 ·
  rw [hb1]
  have:=yT hb1
  refine aG (aA (aB (aI ?_)))
  refine sS Tryz.f45 3 [1,2,3,5,11,12,13] [] (fun _=>[.pointer (fK p.pa i),vu (p.ps.getD i 0),vu (p.ps.getD i 0)]) (fun _=>[]) (cX (qF (fun _ _ _ hG=>o6 (k:=.i64) Tryz.underlying57 Tryz.sizeOf45 hG.fn.1 rfl (show ((i:Nat):Int)=((i:Nat):Int) from rfl) (show i<(nI p.ps).length from (by omega))))<|cX (qF (v:=fun ρ=>(vu (p.ps.getD i 0))) (fun _ _ _ hG=>(rG Tryz.isAgg45 hG.fn.1 (show i<(nI p.ps).length from (by omega))).trans (by rw [yQ])))<|jE [[]]) (fun _=>?_)
  refine jJ Tryz.f45 2 [1,2,3,5,11,12,13,18] [vu (p.ps.getD i 0),.bool (decide (2147483648≤((p.ps.getD i 0:Nat):Int)))] ?_
  refine oC (decide (2147483648≤((p.ps.getD i 0:Nat):Int))) (fun hb2=>?_) (fun hb2=>?_)
  ·
   rw [hb2]
   have:=yT hb2
   refine rS Tryz.f45 9 [1,2,3,11,12,13] [] (fun _=>[.string (gY X),vu (p.ps.getD i 0),vu (p.ps.getD i 0-2147483648),vx (p.ps.getD i 0-2147483648),.string (gY (dS (p.ps.getD i 0-2147483648))),.string (gY (([47]:List UInt8)++(dS (p.ps.getD i 0-2147483648)))),.string (gY ((([47]:List UInt8)++(dS (p.ps.getD i 0-2147483648)))++([104]:List UInt8))),.string (gY (X++((([47]:List UInt8)++(dS (p.ps.getD i 0-2147483648)))++([104]:List UInt8)))),.string (gY (X++((([47]:List UInt8)++(dS (p.ps.getD i 0-2147483648)))++([104]:List UInt8))))]) (fun _=>[]) (cR [[],[]]<|cA (fun _=>(vu (p.ps.getD i 0-2147483648))) (fun _=>jN (txS (txG hp.ps i) hb2))<|cA (v:=fun ρ=>(.int .u64 (IntKind.u64.wrap ((p.ps.getD i 0-2147483648:Nat):Int)))) (fun _=>(vx (p.ps.getD i 0-2147483648))) (fun _=>congrArg (Value.int .u64) (txU (by have:=txG hp.ps i;omega)))<|cX (qC (fun _ _ w hG=>xBI (p.ps.getD i 0-2147483648) (by have:=txG hp.ps i;omega) w hG.fn.2.1))<|cB (a:=fun ρ=>(.string (gY ([47]:List UInt8)))) (b:=fun ρ=>(.string (gY (dS (p.ps.getD i 0-2147483648))))) (v:=fun ρ=>(.string (gY (([47]:List UInt8)++(dS (p.ps.getD i 0-2147483648)))))) .add 9 (fun _ w=>jP ([47]:List UInt8) (dS (p.ps.getD i 0-2147483648)) (by have q0:=txG hp.ps i;have q1:=kP (n:=p.ps.getD i 0) (by omega);have q2:=kP (n:=p.ps.getD i 0-2147483648) (by omega);have q3:=tx_len hX hp.ps;simp only [List.length_cons,List.length_nil];omega) w)<|cB (a:=fun ρ=>(.string (gY (([47]:List UInt8)++(dS (p.ps.getD i 0-2147483648)))))) (b:=fun ρ=>(.string (gY ([104]:List UInt8)))) (v:=fun ρ=>(.string (gY ((([47]:List UInt8)++(dS (p.ps.getD i 0-2147483648)))++([104]:List UInt8))))) .add 9 (fun _ w=>jP (([47]:List UInt8)++(dS (p.ps.getD i 0-2147483648))) ([104]:List UInt8) (by have q0:=txG hp.ps i;have q1:=kP (n:=p.ps.getD i 0) (by omega);have q2:=kP (n:=p.ps.getD i 0-2147483648) (by omega);have q3:=tx_len hX hp.ps;simp only [List.length_append,List.length_cons,List.length_nil];omega) w)<|cB (a:=fun ρ=>(.string (gY X))) (b:=fun ρ=>(.string (gY ((([47]:List UInt8)++(dS (p.ps.getD i 0-2147483648)))++([104]:List UInt8))))) (v:=fun ρ=>(.string (gY (X++((([47]:List UInt8)++(dS (p.ps.getD i 0-2147483648)))++([104]:List UInt8)))))) .add 9 (fun _ w=>jP X ((([47]:List UInt8)++(dS (p.ps.getD i 0-2147483648)))++([104]:List UInt8)) (by have q0:=txG hp.ps i;have q1:=kP (n:=p.ps.getD i 0) (by omega);have q2:=kP (n:=p.ps.getD i 0-2147483648) (by omega);have q3:=tx_len hX hp.ps;simp only [List.length_append,List.length_cons,List.length_nil];omega) w)<|jE [[]]) (fun _=>?_)
   refine aJ (aA ?_)
   refine rS Tryz.f45 2 [1,2,3,11,12,13] [] (fun _=>[vn (i+1),vn (i+1)]) (fun _=>[]) (jW (fun ρ=>(((i:Nat):Int)+1)) (fun _=>(i+1)) (fun _=>(aW i 1 (by omega)))<|jE [[]]) (fun _=>?_)
   exact mN (i+1,X++((([47]:List UInt8)++(dS (p.ps.getD i 0-2147483648)))++([104]:List UInt8))) (by show (nI p.ps).length-(i+1)<(nI p.ps).length-i;omega) (⟨(by omega),tx_next (by omega) hX (sg_h hb2)⟩) []
  rw [hb2]
  have:=yF hb2
  refine rS Tryz.f45 7 [1,2,3,11,12,13] [] (fun _=>[.string (gY X),vu (p.ps.getD i 0),vx (p.ps.getD i 0),.string (gY (dS (p.ps.getD i 0))),.string (gY (([47]:List UInt8)++(dS (p.ps.getD i 0)))),.string (gY (X++(([47]:List UInt8)++(dS (p.ps.getD i 0))))),.string (gY (X++(([47]:List UInt8)++(dS (p.ps.getD i 0)))))]) (fun _=>[]) (cR [[],[]]<|cA (v:=fun ρ=>(.int .u64 (IntKind.u64.wrap ((p.ps.getD i 0:Nat):Int)))) (fun _=>(vx (p.ps.getD i 0))) (fun _=>congrArg (Value.int .u64) (txU (by have:=txG hp.ps i;omega)))<|cX (qC (fun _ _ w hG=>xBI (p.ps.getD i 0) (by have:=txG hp.ps i;omega) w hG.fn.2.1))<|cB (a:=fun ρ=>(.string (gY ([47]:List UInt8)))) (b:=fun ρ=>(.string (gY (dS (p.ps.getD i 0))))) (v:=fun ρ=>(.string (gY (([47]:List UInt8)++(dS (p.ps.getD i 0)))))) .add 9 (fun _ w=>jP ([47]:List UInt8) (dS (p.ps.getD i 0)) (by have q0:=txG hp.ps i;have q1:=kP (n:=p.ps.getD i 0) (by omega);have q2:=kP (n:=p.ps.getD i 0-2147483648) (by omega);have q3:=tx_len hX hp.ps;simp only [List.length_cons,List.length_nil];omega) w)<|cB (a:=fun ρ=>(.string (gY X))) (b:=fun ρ=>(.string (gY (([47]:List UInt8)++(dS (p.ps.getD i 0)))))) (v:=fun ρ=>(.string (gY (X++(([47]:List UInt8)++(dS (p.ps.getD i 0))))))) .add 9 (fun _ w=>jP X (([47]:List UInt8)++(dS (p.ps.getD i 0))) (by have q0:=txG hp.ps i;have q1:=kP (n:=p.ps.getD i 0) (by omega);have q2:=kP (n:=p.ps.getD i 0-2147483648) (by omega);have q3:=tx_len hX hp.ps;simp only [List.length_append,List.length_cons,List.length_nil];omega) w)<|jE [[]]) (fun _=>?_)
  refine aJ (aA ?_)
  refine rS Tryz.f45 2 [1,2,3,11,12,13] [] (fun _=>[vn (i+1),vn (i+1)]) (fun _=>[]) (jW (fun ρ=>(((i:Nat):Int)+1)) (fun _=>(i+1)) (fun _=>(aW i 1 (by omega)))<|jE [[]]) (fun _=>?_)
  exact mN (i+1,X++(([47]:List UInt8)++(dS (p.ps.getD i 0)))) (by show (nI p.ps).length-(i+1)<(nI p.ps).length-i;omega) (⟨(by omega),tx_next (by omega) hX (sg_n hb2)⟩) []
 rw [hb1]
 refine bF (aN (aN (aT (aA (aB (jM Tryz.f45 2 [2,3,35] [0] [jp (nb ρ1 0) 44,.bool p.wd] [[],[0]] ?_))))))
 refine oC p.wd (fun hb3=>?_) (fun hb3=>?_)
 ·
  rw [hb3]
  refine rS Tryz.f45 3 [2,3] [] (fun _=>[.string (gY X),.string (gY (X++([47,42]:List UInt8))),.string (gY (X++([47,42]:List UInt8)))]) (fun _=>[]) (cR [[]]<|cB (a:=fun ρ=>(.string (gY X))) (b:=fun ρ=>(.string (gY ([47,42]:List UInt8)))) (v:=fun ρ=>(.string (gY (X++([47,42]:List UInt8))))) .add 9 (fun _ w=>jP X ([47,42]:List UInt8) (by have q3:=tx_len hX hp.ps;simp only [List.length_cons,List.length_nil];omega) w)<|jE [[]]) (fun _=>?_)
  refine aA (jJ Tryz.f45 2 [2] [.string (gY (X++([47,42]:List UInt8))),.string (gY (X++([47,42]:List UInt8)))] (aF ?_))
  exact mR (v:=(.string (gY (X++([47,42]:List UInt8))))) (fun _ hS=>⟨congrArg (fun x=>Ending.returned (.string (gY x))) (tx_w1 (by have:=yF hb1;omega) hX hb3),hS.bel⟩)
 rw [hb3]
 refine aG (aA (jJ Tryz.f45 2 [2] [.string (gY X),.string (gY X)] (aF ?_)))
 exact mR (v:=(.string (gY X))) (fun _ hS=>⟨congrArg (fun x=>Ending.returned (.string (gY x))) (tx_w0 (by have:=yF hb1;omega) hX hb3),hS.bel⟩)
theorem tadd_any (X:List UInt8) (g:Nat) (h:Nat) (S:List UInt8) (C:List UInt8) (hgh:g≠h) (hl:S.length+(C.length+X.length)≤9223372036854775807) (w0:World) (hK:Knows [(g,(cL #[.string (gY S)] 9)),(h,(cL #[.string (gY C)] 9))] w0) (hP:dL (fun b=>b∈([(g,(cL #[.string (gY S)] 9)),(h,(cL #[.string (gY C)] 9))]:List (Nat × Obj)).map (·.1)) (fun _=>True) w0):Calls Tryz.prog 42 #[.string (gY X),pt g,pt h] w0 (fun ε w'=>ε=.returned (.tuple #[])∧nN (fun b=>b∈([(g,(cL #[.string (gY S)] 9)),(h,(cL #[.string (gY C)] 9))]:List (Nat × Obj)).map (·.1)) w0 w'∧Knows [(g,(cL #[.string (gY (S++(C++X)))] 9)),(h,(cL #[.string ⟨#[44]⟩] 9))] w'):=by
 refine Calls.of_okW (n:=9) (F:=(fun _=>True)) [(g,(cL #[.string (gY S)] 9)),(h,(cL #[.string (gY C)] 9))] Tryz.func42 rfl rfl rfl (by simp) hK (by simp [hgh]) hP ?_
 have hgn:g≠h:=hgh
 refine sS Tryz.f42 6 [2] [] (fun _=>[.string (gY S),.string (gY C),.string (gY X),.string (gY (C++X)),.string (gY (S++(C++X))),undef]) (fun _=>[(5,(bD 0 g (cL #[.string (gY (S++(C++X)))] 9)))]) (cR [[0],[1],[]]<|cB (a:=fun ρ=>(.string (gY C))) (b:=fun ρ=>(.string (gY X))) (v:=fun ρ=>(.string (gY (C++X)))) .add 9 (fun _ w=>jP C X (by omega) w)<|cB (a:=fun ρ=>(.string (gY S))) (b:=fun ρ=>(.string (gY (C++X)))) (v:=fun ρ=>(.string (gY (S++(C++X))))) .add 9 (fun _ w=>jP S (C++X) (by have:=hl;simp only [List.length_append];omega) w)<|jE [[0]]) (fun _=>?_)
 refine rS Tryz.f42 1 [] [] (fun _=>[undef]) (fun _=>[(0,(bD 1 h (cL #[.string ⟨#[44]⟩] 9)))]) (jE [[1]]) (fun _=>?_)
 refine mt_end ?_
 exact mR (v:=(.tuple #[])) (fun _ hS=>⟨rfl,hS.below,hS.knows [1,1]⟩)
theorem o8 (X:List UInt8) (g h:Nat) (S C:List UInt8) (h2:2≤S.length) (h1:C.length≤1) (hl:S.length+(C.length+X.length)≤9223372036854775807) (w0:World) (hK:Knows [(g,cL #[.string (gY S)] 9),(h,cL #[.string (gY C)] 9)] w0) (hP:dL (fun b=>b∈([(g,cL #[.string (gY S)] 9),(h,cL #[.string (gY C)] 9)]:List (Nat × Obj)).map (·.1)) (fun _=>True) w0) :
    Calls Tryz.prog 42 #[.string (gY X),pt g,pt h] w0 (fun ε w'=>ε=.returned (.tuple #[])∧nN (fun b=>b∈([(g,cL #[.string (gY S)] 9),(h,cL #[.string (gY C)] 9)]:List (Nat × Obj)).map (·.1)) w0 w'∧Knows [(g,cL #[.string (gY (S++(C++X)))] 9),(h,cL #[.string ⟨#[44]⟩] 9)] w'):=by
  refine tadd_any X g h S C (fun e=>?_) hl w0 hK hP
  have a:=hK _ (List.mem_cons_self ..)
  have b:=hK _ (List.mem_cons_of_mem _ (List.mem_cons_self ..))
  rw [show ((h,cL #[.string (gY C)] 9):Nat × Obj).1=g from e.symm,a] at b
  have c:S=C:=by simpa [gY] using b
  rw [c] at h2;omega
theorem dhard_any (x:Nat) (w0:World):Calls Tryz.prog 69 #[vu x] w0 (jR (.bool (hdB x)) w0):=by
 refine Calls.of_ok (n:=5) (F:=(fun _=>True)) Tryz.func69 rfl rfl rfl (by simp) jT ?_
 refine jJ Tryz.f69 1 [0,2] [vF] (jJ Tryz.f69 3 [2] (let qa:Value:=.bool (decide (2147483648≤((x:Nat):Int)));[vu x,qa,qa]) (aF ?_))
 exact mR (v:=(.bool (decide (2147483648≤((x:Nat):Int))))) (fun _ hS=>⟨jB (hd_dec x),hS.bel⟩)
theorem ixfunc_any (a:Option Addr) (c:Nat) (ps:List Nat) (w0:World) (hf0:Is w0 .u32 a c (nI ps)):Calls Tryz.prog 93 #[.slice a (nI ps).length c,.func (.func 69) #[] #[]] w0 (jR (vi (ixA ps 0)) w0):=by
 refine Calls.of_ok (n:=19) (F:=(fun w=>Is w .u32 a c (nI ps)∧True)) Tryz.func93 rfl rfl rfl (by simp) (hf0.pers0.and cO) ?_
 have hlen:(nI ps).length≤140737488351232:=hf0.max
 refine jJ Tryz.f93 1 [0,1,4] [vi 0] (aB (jJ Tryz.f93 3 [0,1,4,7,8] [.slice a (nI ps).length c,vn (nI ps).length,vi 0] (aI ?_)))
 refine oL (σ:=Nat) (fun i=>[(0,(.slice a (nI ps).length c)),(1,(.func (.func 69) #[] #[])),(7,(vn (nI ps).length)),(8,(vn i))]) (fun _=>[]) (fun i=>(nI ps).length-i)
   (fun i=>(i≤(nI ps).length)∧(ixA (ps.drop i) i=ixA ps 0)) 0 (⟨Nat.zero_le _,rfl⟩) [] ?_
 rintro i ⟨hi,hr⟩
 change Ok Tryz.prog _ _ 19 [(0,(.slice a (nI ps).length c)),(1,(.func (.func 69) #[] #[])),(7,(vn (nI ps).length)),(8,(vn i))] _ [] (fun w=>Is w .u32 a c (nI ps)∧True)
 refine jJ Tryz.f93 1 [0,1,7,8,9] [.bool (decide (((i:Nat):Int)<(((nI ps).length:Nat):Int)))] (aB ?_)
 refine oC (decide (((i:Nat):Int)<(((nI ps).length:Nat):Int))) (fun hb1=>?_) (fun hb1=>?_)
 ·
  rw [hb1]
  have:=yT hb1
  refine aG (aA (aB (aI (jJ Tryz.f93 2 [0,1,5,7,8] [vn i,vn i] ?_))))
  refine sS Tryz.f93 6 [0,1,5,7,8,16] [] (fun _=>[.func (.func 69) #[] #[],.slice a (nI ps).length c,vn i,.pointer (fK a i),vu (ps.getD i 0),.bool (hdB (ps.getD i 0))]) (fun _=>[]) (cR [[],[],[]]<|cX (qF (fun _ _ _ hG=>o6 (k:=.i64) Tryz.underlying57 Tryz.sizeOf45 hG.fn.1 rfl (show ((i:Nat):Int)=((i:Nat):Int) from rfl) (show i<(nI ps).length from (by omega))))<|cX (qF (v:=fun ρ=>(vu (ps.getD i 0))) (fun _ _ _ hG=>(rG Tryz.isAgg45 hG.fn.1 (show i<(nI ps).length from (by omega))).trans (by rw [yQ])))<|cC (fun _ w=>dhard_any (ps.getD i 0) w)<|cN) (fun _=>?_)
  refine oC (hdB (ps.getD i 0)) (fun hb2=>?_) (fun hb2=>?_)
  ·
   rw [hb2]
   refine jJ Tryz.f93 2 [0,1,4,7,8] [vn i,vn i] (aF (aP (aC (aC (aP (aC ?_))))))
   exact mR (v:=(vn i)) (fun _ hS=>⟨congrArg (fun x=>Ending.returned (vi x)) (ix_stop (by have:=fZ ps;omega) hb2 hr),hS.bel⟩)
  rw [hb2]
  refine aG (aJ (aA ?_))
  refine rS Tryz.f93 2 [0,1,7,8] [] (fun _=>[vn (i+1),vn (i+1)]) (fun _=>[]) (jW (fun ρ=>(((i:Nat):Int)+1)) (fun _=>(i+1)) (fun _=>(aW i 1 (by omega)))<|jE [[]]) (fun _=>?_)
  exact mN (i+1) (by show (nI ps).length-(i+1)<(nI ps).length-i;omega) (⟨(by omega),ix_next (by have:=fZ ps;omega) hb2 hr⟩) []
 rw [hb1]
 refine bF (aN (aN (aT (aA (jJ Tryz.f93 1 [4] [vi (-1)] (aF ?_))))))
 exact mR (v:=(vi (-1))) (fun _ hS=>⟨congrArg (fun x=>Ending.returned (vi x)) (ix_end (by have:=fZ ps;have:=yF hb1;omega) hr),hS.bel⟩)
theorem cofunc_any (a:Option Addr) (c:Nat) (ps:List Nat) (w0:World) (hf0:Is w0 .u32 a c (nI ps)):Calls Tryz.prog 68 #[.slice a (nI ps).length c,.func (.func 69) #[] #[]] w0 (jR (.bool (ps.any hdB)) w0):=by
 refine Calls.of_ok (n:=9) (F:=(fun w=>Is w .u32 a c (nI ps)∧True)) Tryz.func68 rfl rfl rfl (by simp) (hf0.pers0.and cO) ?_
 refine jJ Tryz.f68 1 [0,1,4] [vF] ?_
 refine sS Tryz.f68 5 [4] [] (fun _=>let qa:Value:=.bool (decide (0≤(ixA ps 0)));[.slice a (nI ps).length c,.func (.func 69) #[] #[],vi (ixA ps 0),qa,qa]) (fun _=>[]) (cR [[],[]]<|cX (qC (fun _ _ w hG=>ixfunc_any a c ps w hG.fn.1))<|jE [[],[]]) (fun _=>?_)
 refine aF ?_
 exact mR (v:=(.bool (decide (0≤(ixA ps 0))))) (fun _ hS=>⟨jB (ixA_any ps 0),hS.bel⟩)
theorem dvpath_any (p:dO) (hp:p.Ok) (w0:World) (hf0:Is w0 .u32 p.pa p.pc (nI p.ps)):Calls Tryz.prog 40 #[.agg (dO.row p)] w0 (jR (.bool (dO.vp p)) w0):=by
 refine Calls.of_ok (n:=40) (F:=(fun w=>Is w .u32 p.pa p.pc (nI p.ps)∧True)) Tryz.func40 rfl rfl rfl (by simp) (hf0.pers0.and cO) ?_
 have hlen:(nI p.ps).length≤140737488351232:=hf0.max
 have hnl:(nI p.ps).length=p.ps.length:=fZ p.ps
 refine sS Tryz.f40 2 [1,2] [] (fun ρ=>[pt (nb ρ 0),vF]) (fun ρ=>[(0,(nw ρ 0 (cL (dO.row p) 59)))]) (jE [[],[]]) (fun ρ1=>?_)
 refine aB ?_
 rcases Bool.eq_false_or_eq_true (decide (8<(((nI p.ps).length:Nat):Int))) with hb1 | hb1
 ·
  refine sS Tryz.f40 10 [1,2,14] [] (fun _=>[jp (nb ρ1 0) 43,.slice p.pa (nI p.ps).length p.pc,vn (nI p.ps).length,vT,vT,undef,undef,undef,undef,vT]) (fun _=>[]) (cR [[],[0],[]]<|cA (fun _=>vT) (fun _=>congrArg Value.bool hb1)<|jE [[],[],[],[],[],[]]) (fun _=>?_)
  refine oY ?_
  refine jJ Tryz.f40 1 [1,2] [vF] (aF (aC ?_))
  exact mR (v:=vF) (fun _ hS=>⟨jB (vp_1 (by have:=yT hb1;omega)),hS.bel⟩)
 refine sS Tryz.f40 10 [1,2,14] [] (fun _=>[jp (nb ρ1 0) 43,.slice p.pa (nI p.ps).length p.pc,vn (nI p.ps).length,vF,vF,pt (nb ρ1 0),.agg (kY p.k),.bool (fC p.k),.bool (!(fC p.k)),.bool (!(fC p.k))]) (fun _=>[]) (cR [[],[0],[]]<|cA (fun _=>vF) (fun _=>congrArg Value.bool hb1)<|cR [[],[],[0]]<|cC (fun _ w=>yN p.k hp.k w)<|jE [[],[]]) (fun _=>?_)
 refine oC (!(fC p.k)) (fun hb2=>?_) (fun hb2=>?_)
 ·
  rw [hb2]
  refine jJ Tryz.f40 1 [1,2] [vF] (aF (aC ?_))
  exact mR (v:=vF) (fun _ hS=>⟨jB (vp_2 (dF hb2)),hS.bel⟩)
 rw [hb2]
 refine aG (aA ?_)
 refine sS Tryz.f40 8 [1,2,3] [] (fun _=>let qa:=vi (p.k.d+(((nI p.ps).length:Nat):Int));[pt (nb ρ1 0),jp (nb ρ1 0) 40,vi p.k.d,jp (nb ρ1 0) 43,.slice p.pa (nI p.ps).length p.pc,vn (nI p.ps).length,qa,qa]) (fun _=>[]) (cR [[],[],[0],[],[0],[]]<|jU (fun ρ=>(p.k.d+(((nI p.ps).length:Nat):Int))) (fun _=>(p.k.d+(((nI p.ps).length:Nat):Int))) (fun _=>(gZ (by have:=oI (aV hb2);have:=yF hb1;omega)))<|jE [[]]) (fun _=>?_)
 refine aB (jM Tryz.f40 2 [1,2,3,23] [] [jp (nb ρ1 0) 44,.bool p.wd] [[],[0]] ?_)
 refine oC p.wd (fun hb3=>?_) (fun hb3=>?_)
 ·
  rw [hb3]
  refine rS Tryz.f40 3 [1,2,3] [] (fun _=>let qa:=vi (p.k.d+(((nI p.ps).length:Nat):Int)+1);[vi (p.k.d+(((nI p.ps).length:Nat):Int)),qa,qa]) (fun _=>[]) (cR [[]]<|jU (fun ρ=>((p.k.d+(((nI p.ps).length:Nat):Int))+1)) (fun _=>(p.k.d+(((nI p.ps).length:Nat):Int)+1)) (fun _=>(gZ (by have:=oI (aV hb2);have:=yF hb1;omega)))<|jE [[]]) (fun _=>?_)
  refine aA (aB (jJ Tryz.f40 2 [1,2,27] [vi (p.k.d+(((nI p.ps).length:Nat):Int)+1),.bool (decide (8<(p.k.d+(((nI p.ps).length:Nat):Int)+1)))] ?_))
  refine oC (decide (8<(p.k.d+(((nI p.ps).length:Nat):Int)+1))) (fun hb4=>?_) (fun hb4=>?_)
  ·
   rw [hb4]
   refine jJ Tryz.f40 1 [1,2] [vF] (aF (aC ?_))
   exact mR (v:=vF) (fun _ hS=>⟨jB (vp_3 (by have:=w1_t hb3;have:=yF hb1;have:=yT hb4;omega)),hS.bel⟩)
  rw [hb4]
  have:=yF hb4
  refine aG (aA ?_)
  refine sS Tryz.f40 4 [1,2,4] [] (fun _=>[jp (nb ρ1 0) 43,.slice p.pa (nI p.ps).length p.pc,.bool (p.ps.any hdB),.bool (p.ps.any hdB)]) (fun _=>[]) (cR [[],[0]]<|cX (qC (fun _ _ w hG=>cofunc_any p.pa p.pc p.ps w hG.fn.1))<|jE [[]]) (fun _=>?_)
  refine lK [(1,(pt (nb ρ1 0))),(2,vF),(4,(.bool (p.ps.any hdB)))] [(nb ρ1 0,(cL (dO.row p) 59))] ?_
  rcases Bool.eq_false_or_eq_true (p.ps.any hdB) with hb5 | hb5
  ·
   rw [hb5]
   refine sS Tryz.f40 10 [2] [0] (fun _=>let qa:Value:=.bool (!decide (p.k.s=0));[vT,vF,vF,pt (nb ρ1 0),pt (nb ρ1 0),U p.k.s,U 0,qa,qa,qa]) (fun _=>[]) (cR [[],[],[],[],[],[0],[]]<|cB (a:=fun ρ=>(U p.k.s)) (b:=fun ρ=>(U 0)) (v:=fun ρ=>(.bool (!decide (p.k.s=0)))) .neq 54 (fun _ _=>neqU p.k.s 0 hp.k.s (by decide +kernel) _)<|jE [[],[]]) (fun _=>?_)
   refine aF ?_
   exact mR (v:=(.bool (!decide (p.k.s=0)))) (fun _ hS=>⟨jB (show (!decide (p.k.s=0))=dO.vp p from (Decidable.em (p.k.s=0)).elim (fun h0=>by rw [decide_eq_true h0];exact vp_4 hb5 h0) (fun h0=>by rw [decide_eq_false h0];exact vp_5 (by have:=yF hb1;omega) (aV hb2) (by have:=w1_t hb3;have:=yF hb1;omega) (Or.inr h0))),hS.bel⟩)
  rw [hb5]
  refine jM Tryz.f40 10 [2] [0] [vF,vT,vT,undef,undef,undef,undef,undef,vT,vT] [[],[],[],[],[],[],[],[],[],[]] (aF ?_)
  exact mR (v:=vT) (fun _ hS=>⟨jB (vp_5 (by have:=yF hb1;omega) (aV hb2) (by have:=w1_t hb3;have:=yF hb1;omega) (Or.inl hb5)),hS.bel⟩)
 rw [hb3]
 refine aG (aA (aB (jJ Tryz.f40 2 [1,2,27] [vi (p.k.d+(((nI p.ps).length:Nat):Int)),.bool (decide (8<(p.k.d+(((nI p.ps).length:Nat):Int))))] ?_)))
 refine oC (decide (8<(p.k.d+(((nI p.ps).length:Nat):Int)))) (fun hb6=>?_) (fun hb6=>?_)
 ·
  rw [hb6]
  refine jJ Tryz.f40 1 [1,2] [vF] (aF (aC ?_))
  exact mR (v:=vF) (fun _ hS=>⟨jB (vp_3 (by have:=w1_f hb3;have:=yF hb1;have:=yT hb6;omega)),hS.bel⟩)
 rw [hb6]
 have:=yF hb6
 refine aG (aA ?_)
 refine sS Tryz.f40 4 [1,2,4] [] (fun _=>[jp (nb ρ1 0) 43,.slice p.pa (nI p.ps).length p.pc,.bool (p.ps.any hdB),.bool (p.ps.any hdB)]) (fun _=>[]) (cR [[],[0]]<|cX (qC (fun _ _ w hG=>cofunc_any p.pa p.pc p.ps w hG.fn.1))<|jE [[]]) (fun _=>?_)
 rcases Bool.eq_false_or_eq_true (p.ps.any hdB) with hb7 | hb7
 ·
  rw [hb7]
  refine sS Tryz.f40 10 [2] [0] (fun _=>let qa:Value:=.bool (!decide (p.k.s=0));[vT,vF,vF,pt (nb ρ1 0),pt (nb ρ1 0),U p.k.s,U 0,qa,qa,qa]) (fun _=>[]) (cR [[],[],[],[],[],[0],[]]<|cB (a:=fun ρ=>(U p.k.s)) (b:=fun ρ=>(U 0)) (v:=fun ρ=>(.bool (!decide (p.k.s=0)))) .neq 54 (fun _ _=>neqU p.k.s 0 hp.k.s (by decide +kernel) _)<|jE [[],[]]) (fun _=>?_)
  refine aF ?_
  exact mR (v:=(.bool (!decide (p.k.s=0)))) (fun _ hS=>⟨jB (show (!decide (p.k.s=0))=dO.vp p from (Decidable.em (p.k.s=0)).elim (fun h0=>by rw [decide_eq_true h0];exact vp_4 hb7 h0) (fun h0=>by rw [decide_eq_false h0];exact vp_5 (by have:=yF hb1;omega) (aV hb2) (by have:=w1_f hb3;have:=yF hb1;omega) (Or.inr h0))),hS.bel⟩)
 rw [hb7]
 refine jM Tryz.f40 10 [2] [0] [vF,vT,vT,undef,undef,undef,undef,undef,vT,vT] [[],[],[],[],[],[],[],[],[],[]] (aF ?_)
 exact mR (v:=vT) (fun _ hS=>⟨jB (vp_5 (by have:=yF hb1;omega) (aV hb2) (by have:=w1_f hb3;have:=yF hb1;omega) (Or.inl hb7)),hS.bel⟩)
theorem rdvpath_any (p:dO) (hp:p.Ok) (w0:World) (hf0:Is w0 .u32 p.pa p.pc (nI p.ps)):Calls Tryz.prog 35 #[.agg (dO.row p)] w0 (jR (.bool (dO.vp p)) w0):=by
 refine Calls.of_ok (n:=49) (F:=(fun w=>Is w .u32 p.pa p.pc (nI p.ps)∧True)) Tryz.func35 rfl rfl rfl (by simp) (hf0.pers0.and cO) ?_
 have hlen:(nI p.ps).length≤140737488351232:=hf0.max
 have hnl:(nI p.ps).length=p.ps.length:=fZ p.ps
 refine sS Tryz.f35 2 [1,2] [] (fun ρ=>[pt (nb ρ 0),vF]) (fun ρ=>[(0,(nw ρ 0 (cL (dO.row p) 59)))]) (jE [[],[]]) (fun ρ1=>?_)
 refine jM Tryz.f35 4 [1,2,3] [] [jp (nb ρ1 0) 43,.slice p.pa (nI p.ps).length p.pc,vn (nI p.ps).length,vn (nI p.ps).length] [[],[0],[],[]] (aB (jM Tryz.f35 2 [1,2,3,9] [] [jp (nb ρ1 0) 44,.bool p.wd] [[],[0]] ?_))
 refine oC p.wd (fun hb1=>?_) (fun hb1=>?_)
 ·
  rw [hb1]
  refine rS Tryz.f35 3 [1,2,3] [] (fun _=>let qa:=vn ((nI p.ps).length+1);[vn (nI p.ps).length,qa,qa]) (fun _=>[]) (cR [[]]<|jW (fun ρ=>((((nI p.ps).length:Nat):Int)+1)) (fun _=>((nI p.ps).length+1)) (fun _=>(aW (nI p.ps).length 1 (by omega)))<|jE [[]]) (fun _=>?_)
  refine aA (aB ?_)
  rcases Bool.eq_false_or_eq_true (decide (8<(((nI p.ps).length:Nat):Int))) with hb2 | hb2
  ·
   refine sS Tryz.f35 18 [1,2,29] [] (fun _=>[jp (nb ρ1 0) 43,.slice p.pa (nI p.ps).length p.pc,vn (nI p.ps).length,vT,vT,undef,undef,undef,undef,vT,vT,undef,undef,undef,undef,undef,undef,vT]) (fun _=>[]) (cR [[],[0],[]]<|cA (fun _=>vT) (fun _=>congrArg Value.bool hb2)<|jE [[],[],[],[],[],[],[],[],[],[],[],[],[],[]]) (fun _=>?_)
   refine oY ?_
   refine jJ Tryz.f35 1 [1,2] [vF] (aF (aC ?_))
   exact mR (v:=vF) (fun _ hS=>⟨jB (vp_1 (by have:=yT hb2;omega)),hS.bel⟩)
  rcases Bool.eq_false_or_eq_true (fC p.k) with hb3 | hb3
  ·
   refine sS Tryz.f35 18 [1,2,29] [] (fun _=>let qa:Value:=.bool (decide (8<(p.k.d+(((nI p.ps).length+1:Nat):Int))));[jp (nb ρ1 0) 43,.slice p.pa (nI p.ps).length p.pc,vn (nI p.ps).length,vF,vF,pt (nb ρ1 0),.agg (kY p.k),vT,vF,vF,vF,pt (nb ρ1 0),jp (nb ρ1 0) 40,vi p.k.d,vn ((nI p.ps).length+1),vi (p.k.d+(((nI p.ps).length+1:Nat):Int)),qa,qa]) (fun _=>[]) (cR [[],[0],[]]<|cA (fun _=>vF) (fun _=>congrArg Value.bool hb2)<|cR [[],[],[0]]<|cC (f:=63) (args:=fun ρ=> #[.agg (kY p.k)]) (v:=fun ρ=>vT) (fun _ w=>by as_aux_lemma=>(have hcall:=(fun w=>oQ p.k hp.k w) w;rw [hb3] at hcall;exact hcall))<|cR [[],[],[],[],[],[0],[]]<|jU (fun ρ=>(p.k.d+(((nI p.ps).length+1:Nat):Int))) (fun _=>(p.k.d+(((nI p.ps).length+1:Nat):Int))) (fun _=>(gZ (by have:=oI hb3;have:=yF hb2;omega)))<|jE [[],[]]) (fun _=>?_)
   refine oC (decide (8<(p.k.d+(((nI p.ps).length+1:Nat):Int)))) (fun hb4=>?_) (fun hb4=>?_)
   ·
    rw [hb4]
    refine jJ Tryz.f35 1 [1,2] [vF] (aF (aC ?_))
    exact mR (v:=vF) (fun _ hS=>⟨jB (vp_3 (by have:=w1_t hb1;have:=yF hb2;have:=yT hb4;omega)),hS.bel⟩)
   rw [hb4]
   have:=yF hb4
   refine aG (aA (aB (jJ Tryz.f35 1 [1,2,4] [vi 0] (aI ?_))))
   refine oL (σ:=Nat) (fun i=>[(1,(pt (nb ρ1 0))),(4,(vn i))]) (fun _=>[(nb ρ1 0,(cL (dO.row p) 59))]) (fun i=>(nI p.ps).length-i)
     (fun i=>(i≤(nI p.ps).length)∧((p.ps.drop i).any p.hf=p.ps.any p.hf)) 0 (⟨Nat.zero_le _,rfl⟩) [] ?_
   rintro i ⟨hi,hr⟩
   change Ok Tryz.prog _ _ 49 [(1,(pt (nb ρ1 0))),(4,(vn i))] _ [(nb ρ1 0,(cL (dO.row p) 59))] (fun w=>Is w .u32 p.pa p.pc (nI p.ps)∧True)
   refine aB (jM Tryz.f35 5 [1,4,34] [] [vn i,jp (nb ρ1 0) 43,.slice p.pa (nI p.ps).length p.pc,vn (nI p.ps).length,.bool (decide (((i:Nat):Int)<(((nI p.ps).length:Nat):Int)))] [[],[],[0],[],[]] ?_)
   refine oC (decide (((i:Nat):Int)<(((nI p.ps).length:Nat):Int))) (fun hb5=>?_) (fun hb5=>?_)
   ·
    rw [hb5]
    have:=yT hb5
    refine aG (aA (aB (aI ?_)))
    rcases Bool.eq_false_or_eq_true (decide (2147483648≤((p.ps.getD i 0:Nat):Int))) with hb6 | hb6
    ·
     refine sS Tryz.f35 12 [1,4,48] [] (fun _=>let qa:Value:=.bool (decide (p.k.s=0));[jp (nb ρ1 0) 43,.slice p.pa (nI p.ps).length p.pc,vn i,.pointer (fK p.pa i),vu (p.ps.getD i 0),vT,vT,pt (nb ρ1 0),pt (nb ρ1 0),U p.k.s,qa,qa]) (fun _=>[]) (cR [[],[0],[]]<|cX (qF (fun _ _ _ hG=>o6 (k:=.i64) Tryz.underlying57 Tryz.sizeOf45 hG.fn.1 rfl (show ((i:Nat):Int)=((i:Nat):Int) from rfl) (show i<(nI p.ps).length from (by have:=yF hb2;have:=yT hb6;omega))))<|cX (qF (v:=fun ρ=>(vu (p.ps.getD i 0))) (fun _ _ _ hG=>(rG Tryz.isAgg45 hG.fn.1 (show i<(nI p.ps).length from (by have:=yF hb2;have:=yT hb6;omega))).trans (by rw [yQ])))<|cA (fun _=>vT) (fun _=>congrArg Value.bool hb6)<|cR [[],[],[],[0]]<|cC (fun _ w=>iI p.k.s w hp.k.s)<|jE [[]]) (fun _=>?_)
     refine oC (decide (p.k.s=0)) (fun hb7=>?_) (fun hb7=>?_)
     ·
      rw [hb7]
      refine jJ Tryz.f35 1 [1,2,4] [vF] (aF (aP (aC (aC (aP (aC ?_))))))
      exact mR (v:=vF) (fun _ hS=>⟨jB (vp_6 (pa_stop (f:=p.hf) (by have:=yF hb2;have:=yT hb6;have:=yT hb7;omega) (hf_c hb6 hb7) hr)),hS.bel⟩)
     rw [hb7]
     have:=yF hb7
     refine aG (aJ (aA ?_))
     refine rS Tryz.f35 3 [1,4] [] (fun _=>[vn i,vn (i+1),vn (i+1)]) (fun _=>[]) (cR [[]]<|jW (fun ρ=>(((i:Nat):Int)+1)) (fun _=>(i+1)) (fun _=>(aW i 1 (by have:=yF hb2;have:=yT hb6;omega)))<|jE [[]]) (fun _=>?_)
     exact mN (i+1) (by show (nI p.ps).length-(i+1)<(nI p.ps).length-i;have:=yF hb2;have:=yT hb6;omega) (⟨(by have:=yF hb2;have:=yT hb6;omega),pa_next (f:=p.hf) (by have:=yF hb2;have:=yT hb6;omega) (hf_b hb7) hr⟩) []
    refine sS Tryz.f35 12 [1,4,48] [] (fun _=>[jp (nb ρ1 0) 43,.slice p.pa (nI p.ps).length p.pc,vn i,.pointer (fK p.pa i),vu (p.ps.getD i 0),vF,vF,undef,undef,undef,undef,vF]) (fun _=>[]) (cR [[],[0],[]]<|cX (qF (fun _ _ _ hG=>o6 (k:=.i64) Tryz.underlying57 Tryz.sizeOf45 hG.fn.1 rfl (show ((i:Nat):Int)=((i:Nat):Int) from rfl) (show i<(nI p.ps).length from (by have:=yF hb2;have:=yF hb6;omega))))<|cX (qF (v:=fun ρ=>(vu (p.ps.getD i 0))) (fun _ _ _ hG=>(rG Tryz.isAgg45 hG.fn.1 (show i<(nI p.ps).length from (by have:=yF hb2;have:=yF hb6;omega))).trans (by rw [yQ])))<|cA (fun _=>vF) (fun _=>congrArg Value.bool hb6)<|jE [[],[],[],[],[],[]]) (fun _=>?_)
    refine oN ?_
    refine aG (aJ (aA ?_))
    refine rS Tryz.f35 3 [1,4] [] (fun _=>[vn i,vn (i+1),vn (i+1)]) (fun _=>[]) (cR [[]]<|jW (fun ρ=>(((i:Nat):Int)+1)) (fun _=>(i+1)) (fun _=>(aW i 1 (by have:=yF hb2;have:=yF hb6;omega)))<|jE [[]]) (fun _=>?_)
    exact mN (i+1) (by show (nI p.ps).length-(i+1)<(nI p.ps).length-i;have:=yF hb2;have:=yF hb6;omega) (⟨(by have:=yF hb2;have:=yF hb6;omega),pa_next (f:=p.hf) (by have:=yF hb2;have:=yF hb6;omega) (hf_a hb6) hr⟩) []
   rw [hb5]
   have:=yF hb5
   refine bF (aN (aN (aT (aA (jM Tryz.f35 1 [2] [0] [vT] [[]] (aF ?_))))))
   exact mR (v:=vT) (fun _ hS=>⟨jB (vp_5 (by have:=yF hb2;omega) hb3 (by have:=w1_t hb1;have:=yF hb2;omega) (vp_7 (all_endN (by have:=yF hb2;omega) hr))),hS.bel⟩)
  refine sS Tryz.f35 18 [1,2,29] [] (fun _=>[jp (nb ρ1 0) 43,.slice p.pa (nI p.ps).length p.pc,vn (nI p.ps).length,vF,vF,pt (nb ρ1 0),.agg (kY p.k),vF,vT,vT,vT,undef,undef,undef,undef,undef,undef,vT]) (fun _=>[]) (cR [[],[0],[]]<|cA (fun _=>vF) (fun _=>congrArg Value.bool hb2)<|cR [[],[],[0]]<|cC (f:=63) (args:=fun ρ=> #[.agg (kY p.k)]) (v:=fun ρ=>vF) (fun _ w=>by as_aux_lemma=>(have hcall:=(fun w=>oQ p.k hp.k w) w;rw [hb3] at hcall;exact hcall))<|jE [[],[],[],[],[],[],[],[],[],[]]) (fun _=>?_)
  refine oY ?_
  refine jJ Tryz.f35 1 [1,2] [vF] (aF (aC ?_))
  exact mR (v:=vF) (fun _ hS=>⟨jB (vp_2 hb3),hS.bel⟩)
 rw [hb1]
 refine aG (aA (aB ?_))
 rcases Bool.eq_false_or_eq_true (decide (8<(((nI p.ps).length:Nat):Int))) with hb8 | hb8
 ·
  refine sS Tryz.f35 18 [1,2,29] [] (fun _=>[jp (nb ρ1 0) 43,.slice p.pa (nI p.ps).length p.pc,vn (nI p.ps).length,vT,vT,undef,undef,undef,undef,vT,vT,undef,undef,undef,undef,undef,undef,vT]) (fun _=>[]) (cR [[],[0],[]]<|cA (fun _=>vT) (fun _=>congrArg Value.bool hb8)<|jE [[],[],[],[],[],[],[],[],[],[],[],[],[],[]]) (fun _=>?_)
  refine oY ?_
  refine jJ Tryz.f35 1 [1,2] [vF] (aF (aC ?_))
  exact mR (v:=vF) (fun _ hS=>⟨jB (vp_1 (by have:=yT hb8;omega)),hS.bel⟩)
 rcases Bool.eq_false_or_eq_true (fC p.k) with hb9 | hb9
 ·
  refine sS Tryz.f35 18 [1,2,29] [] (fun _=>let qa:Value:=.bool (decide (8<(p.k.d+(((nI p.ps).length:Nat):Int))));[jp (nb ρ1 0) 43,.slice p.pa (nI p.ps).length p.pc,vn (nI p.ps).length,vF,vF,pt (nb ρ1 0),.agg (kY p.k),vT,vF,vF,vF,pt (nb ρ1 0),jp (nb ρ1 0) 40,vi p.k.d,vn (nI p.ps).length,vi (p.k.d+(((nI p.ps).length:Nat):Int)),qa,qa]) (fun _=>[]) (cR [[],[0],[]]<|cA (fun _=>vF) (fun _=>congrArg Value.bool hb8)<|cR [[],[],[0]]<|cC (f:=63) (args:=fun ρ=> #[.agg (kY p.k)]) (v:=fun ρ=>vT) (fun _ w=>by as_aux_lemma=>(have hcall:=(fun w=>oQ p.k hp.k w) w;rw [hb9] at hcall;exact hcall))<|cR [[],[],[],[],[],[0],[]]<|jU (fun ρ=>(p.k.d+(((nI p.ps).length:Nat):Int))) (fun _=>(p.k.d+(((nI p.ps).length:Nat):Int))) (fun _=>(gZ (by have:=oI hb9;have:=yF hb8;omega)))<|jE [[],[]]) (fun _=>?_)
  refine oC (decide (8<(p.k.d+(((nI p.ps).length:Nat):Int)))) (fun hb10=>?_) (fun hb10=>?_)
  ·
   rw [hb10]
   refine jJ Tryz.f35 1 [1,2] [vF] (aF (aC ?_))
   exact mR (v:=vF) (fun _ hS=>⟨jB (vp_3 (by have:=w1_f hb1;have:=yF hb8;have:=yT hb10;omega)),hS.bel⟩)
  rw [hb10]
  have:=yF hb10
  refine aG (aA (aB (jJ Tryz.f35 1 [1,2,4] [vi 0] (aI ?_))))
  refine oL (σ:=Nat) (fun i=>[(1,(pt (nb ρ1 0))),(4,(vn i))]) (fun _=>[(nb ρ1 0,(cL (dO.row p) 59))]) (fun i=>(nI p.ps).length-i)
    (fun i=>(i≤(nI p.ps).length)∧((p.ps.drop i).any p.hf=p.ps.any p.hf)) 0 (⟨Nat.zero_le _,rfl⟩) [] ?_
  rintro i ⟨hi,hr⟩
  change Ok Tryz.prog _ _ 49 [(1,(pt (nb ρ1 0))),(4,(vn i))] _ [(nb ρ1 0,(cL (dO.row p) 59))] (fun w=>Is w .u32 p.pa p.pc (nI p.ps)∧True)
  refine aB (jM Tryz.f35 5 [1,4,34] [] [vn i,jp (nb ρ1 0) 43,.slice p.pa (nI p.ps).length p.pc,vn (nI p.ps).length,.bool (decide (((i:Nat):Int)<(((nI p.ps).length:Nat):Int)))] [[],[],[0],[],[]] ?_)
  refine oC (decide (((i:Nat):Int)<(((nI p.ps).length:Nat):Int))) (fun hb11=>?_) (fun hb11=>?_)
  ·
   rw [hb11]
   have:=yT hb11
   refine aG (aA (aB (aI ?_)))
   rcases Bool.eq_false_or_eq_true (decide (2147483648≤((p.ps.getD i 0:Nat):Int))) with hb12 | hb12
   ·
    refine sS Tryz.f35 12 [1,4,48] [] (fun _=>let qa:Value:=.bool (decide (p.k.s=0));[jp (nb ρ1 0) 43,.slice p.pa (nI p.ps).length p.pc,vn i,.pointer (fK p.pa i),vu (p.ps.getD i 0),vT,vT,pt (nb ρ1 0),pt (nb ρ1 0),U p.k.s,qa,qa]) (fun _=>[]) (cR [[],[0],[]]<|cX (qF (fun _ _ _ hG=>o6 (k:=.i64) Tryz.underlying57 Tryz.sizeOf45 hG.fn.1 rfl (show ((i:Nat):Int)=((i:Nat):Int) from rfl) (show i<(nI p.ps).length from (by have:=yF hb8;have:=yT hb12;omega))))<|cX (qF (v:=fun ρ=>(vu (p.ps.getD i 0))) (fun _ _ _ hG=>(rG Tryz.isAgg45 hG.fn.1 (show i<(nI p.ps).length from (by have:=yF hb8;have:=yT hb12;omega))).trans (by rw [yQ])))<|cA (fun _=>vT) (fun _=>congrArg Value.bool hb12)<|cR [[],[],[],[0]]<|cC (fun _ w=>iI p.k.s w hp.k.s)<|jE [[]]) (fun _=>?_)
    refine oC (decide (p.k.s=0)) (fun hb13=>?_) (fun hb13=>?_)
    ·
     rw [hb13]
     refine jJ Tryz.f35 1 [1,2,4] [vF] (aF (aP (aC (aC (aP (aC ?_))))))
     exact mR (v:=vF) (fun _ hS=>⟨jB (vp_6 (pa_stop (f:=p.hf) (by have:=yF hb8;have:=yT hb12;have:=yT hb13;omega) (hf_c hb12 hb13) hr)),hS.bel⟩)
    rw [hb13]
    have:=yF hb13
    refine aG (aJ (aA ?_))
    refine rS Tryz.f35 3 [1,4] [] (fun _=>[vn i,vn (i+1),vn (i+1)]) (fun _=>[]) (cR [[]]<|jW (fun ρ=>(((i:Nat):Int)+1)) (fun _=>(i+1)) (fun _=>(aW i 1 (by have:=yF hb8;have:=yT hb12;omega)))<|jE [[]]) (fun _=>?_)
    exact mN (i+1) (by show (nI p.ps).length-(i+1)<(nI p.ps).length-i;have:=yF hb8;have:=yT hb12;omega) (⟨(by have:=yF hb8;have:=yT hb12;omega),pa_next (f:=p.hf) (by have:=yF hb8;have:=yT hb12;omega) (hf_b hb13) hr⟩) []
   refine sS Tryz.f35 12 [1,4,48] [] (fun _=>[jp (nb ρ1 0) 43,.slice p.pa (nI p.ps).length p.pc,vn i,.pointer (fK p.pa i),vu (p.ps.getD i 0),vF,vF,undef,undef,undef,undef,vF]) (fun _=>[]) (cR [[],[0],[]]<|cX (qF (fun _ _ _ hG=>o6 (k:=.i64) Tryz.underlying57 Tryz.sizeOf45 hG.fn.1 rfl (show ((i:Nat):Int)=((i:Nat):Int) from rfl) (show i<(nI p.ps).length from (by have:=yF hb8;have:=yF hb12;omega))))<|cX (qF (v:=fun ρ=>(vu (p.ps.getD i 0))) (fun _ _ _ hG=>(rG Tryz.isAgg45 hG.fn.1 (show i<(nI p.ps).length from (by have:=yF hb8;have:=yF hb12;omega))).trans (by rw [yQ])))<|cA (fun _=>vF) (fun _=>congrArg Value.bool hb12)<|jE [[],[],[],[],[],[]]) (fun _=>?_)
   refine oN ?_
   refine aG (aJ (aA ?_))
   refine rS Tryz.f35 3 [1,4] [] (fun _=>[vn i,vn (i+1),vn (i+1)]) (fun _=>[]) (cR [[]]<|jW (fun ρ=>(((i:Nat):Int)+1)) (fun _=>(i+1)) (fun _=>(aW i 1 (by have:=yF hb8;have:=yF hb12;omega)))<|jE [[]]) (fun _=>?_)
   exact mN (i+1) (by show (nI p.ps).length-(i+1)<(nI p.ps).length-i;have:=yF hb8;have:=yF hb12;omega) (⟨(by have:=yF hb8;have:=yF hb12;omega),pa_next (f:=p.hf) (by have:=yF hb8;have:=yF hb12;omega) (hf_a hb12) hr⟩) []
  rw [hb11]
  have:=yF hb11
  refine bF (aN (aN (aT (aA (jM Tryz.f35 1 [2] [0] [vT] [[]] (aF ?_))))))
  exact mR (v:=vT) (fun _ hS=>⟨jB (vp_5 (by have:=yF hb8;omega) hb9 (by have:=w1_f hb1;have:=yF hb8;omega) (vp_7 (all_endN (by have:=yF hb8;omega) hr))),hS.bel⟩)
 refine sS Tryz.f35 18 [1,2,29] [] (fun _=>[jp (nb ρ1 0) 43,.slice p.pa (nI p.ps).length p.pc,vn (nI p.ps).length,vF,vF,pt (nb ρ1 0),.agg (kY p.k),vF,vT,vT,vT,undef,undef,undef,undef,undef,undef,vT]) (fun _=>[]) (cR [[],[0],[]]<|cA (fun _=>vF) (fun _=>congrArg Value.bool hb8)<|cR [[],[],[0]]<|cC (f:=63) (args:=fun ρ=> #[.agg (kY p.k)]) (v:=fun ρ=>vF) (fun _ w=>by as_aux_lemma=>(have hcall:=(fun w=>oQ p.k hp.k w) w;rw [hb9] at hcall;exact hcall))<|jE [[],[],[],[],[],[],[],[],[],[]]) (fun _=>?_)
 refine oY ?_
 refine jJ Tryz.f35 1 [1,2] [vF] (aF (aC ?_))
 exact mR (v:=vF) (fun _ hS=>⟨jB (vp_2 hb9),hS.bel⟩)
theorem xBT (a:Option Addr) (c:Nat) (ts:List bW) (w0:World) (hf0:bM w0 a c ts):Calls Tryz.prog 24 #[.slice a ts.length c] w0 (jR (.bool (xW ts)) w0):=by
 refine Calls.of_ok (n:=50) (F:=(fun w=>bM w a c ts∧True)) Tryz.func24 rfl rfl rfl (by simp) (hf0.pers0.and cO) ?_
 have hlen:ts.length≤1000000:=hf0.max
 have ho:mP ts:=hf0.oks
 refine jJ Tryz.f24 1 [0,2] [vF] (aB ?_)
 rcases Bool.eq_false_or_eq_true (decide (((ts.length:Nat):Int)<1)) with hb1 | hb1
 ·
  refine sS Tryz.f24 13 [0,2,21] [] (fun _=>[.slice a ts.length c,vn ts.length,vT,vT,undef,undef,undef,vT,vT,undef,undef,undef,vT]) (fun _=>[]) (cR [[],[]]<|cA (fun _=>vT) (fun _=>congrArg Value.bool hb1)<|jE [[],[],[],[],[],[],[],[],[],[]]) (fun _=>?_)
  refine oY ?_
  refine jJ Tryz.f24 1 [0,2] [vF] (aF (aC ?_))
  exact mR (v:=vF) (fun _ hS=>⟨jB (vl_a (by have:=yT hb1;omega)),hS.bel⟩)
 rcases Bool.eq_false_or_eq_true (decide (8<((ts.length:Nat):Int))) with hb2 | hb2
 ·
  refine sS Tryz.f24 13 [0,2,21] [] (fun _=>[.slice a ts.length c,vn ts.length,vF,vF,.slice a ts.length c,vn ts.length,vT,vT,vT,undef,undef,undef,vT]) (fun _=>[]) (cR [[],[]]<|cA (fun _=>vF) (fun _=>congrArg Value.bool hb1)<|cR [[],[],[]]<|cA (fun _=>vT) (fun _=>congrArg Value.bool hb2)<|jE [[],[],[],[],[],[]]) (fun _=>?_)
  refine oY ?_
  refine jJ Tryz.f24 1 [0,2] [vF] (aF (aC ?_))
  exact mR (v:=vF) (fun _ hS=>⟨jB (vl_a (by have:=yF hb1;have:=yT hb2;omega)),hS.bel⟩)
 refine sS Tryz.f24 13 [0,2,21] [] (fun _=>[.slice a ts.length c,vn ts.length,vF,vF,.slice a ts.length c,vn ts.length,vF,vF,vF,.slice a ts.length c,.bool (vG 1 ts),.bool (!(vG 1 ts)),.bool (!(vG 1 ts))]) (fun _=>[]) (cR [[],[]]<|cA (fun _=>vF) (fun _=>congrArg Value.bool hb1)<|cR [[],[],[]]<|cA (fun _=>vF) (fun _=>congrArg Value.bool hb2)<|cR [[],[],[]]<|cX (qC (fun _ _ w hG=>dwhole_any a c ts w hG.fn.1))<|jE [[],[]]) (fun _=>?_)
 refine oC (!(vG 1 ts)) (fun hb3=>?_) (fun hb3=>?_)
 ·
  rw [hb3]
  refine jJ Tryz.f24 1 [0,2] [vF] (aF (aC ?_))
  exact mR (v:=vF) (fun _ hS=>⟨jB (vl_b (dF hb3)),hS.bel⟩)
 rw [hb3]
 refine aG (aA (aB (jJ Tryz.f24 3 [0,2,22,23,24] [.slice a ts.length c,vn ts.length,vi 0] (aI ?_))))
 refine oL (σ:=Nat) (fun i=>[(0,(.slice a ts.length c)),(22,(.slice a ts.length c)),(23,(vn ts.length)),(24,(vn i))]) (fun _=>[]) (fun i=>ts.length-i)
   (fun i=>(i≤ts.length)∧((ts.drop i).all bW.fd=ts.all bW.fd)) 0 (⟨Nat.zero_le _,rfl⟩) [] ?_
 rintro i ⟨hi,hA⟩
 change Ok Tryz.prog _ _ 50 [(0,(.slice a ts.length c)),(22,(.slice a ts.length c)),(23,(vn ts.length)),(24,(vn i))] _ [] (fun w=>bM w a c ts∧True)
 refine jJ Tryz.f24 1 [0,22,23,24,25] [.bool (decide (((i:Nat):Int)<((ts.length:Nat):Int)))] (aB ?_)
 refine oC (decide (((i:Nat):Int)<((ts.length:Nat):Int))) (fun hb4=>?_) (fun hb4=>?_)
 ·
  rw [hb4]
  have:=yT hb4
  refine aG (aA (aB (aI ?_)))
  refine sS Tryz.f24 4 [0,4,22,23,24] [] (fun ρ=>[.pointer (fK a (i*36)),.agg (bW.row (gT ts i)),pt (nb ρ 2),undef]) (fun ρ=>[(2,(nw ρ 2 (cL (iC 0 0 0 0 vz) 50))),(3,(bD 16 (nb ρ 2) (cL (bW.row (gT ts i)) 50)))]) (cX (qF (fun _ _ _ hG=>bM.idx (k:=.i64) Tryz.underlying24 Tryz.sizeOf50 hG.fn.1 rfl (show ((i:Nat):Int)=((i:Nat):Int) from rfl) (show i<ts.length from (by have:=yF hb1;have:=yF hb2;omega))))<|cX (qF (fun _ _ _ hG=>bM.ldA (i:=i) Tryz.isAgg50 Tryz.sizeOf50 hG.fn.1 (show i<ts.length from (by have:=yF hb1;have:=yF hb2;omega))))<|jE [[],[16]]) (fun _=>?_)
  refine sS Tryz.f24 3 [0,22,23,24,30] [0] (fun _=>[.agg (bW.row (gT ts i)),.bool (fdN (gT ts i).kd (gT ts i).m (gT ts i).nu (gT ts i).h (gT ts i).ks.length),.bool (!(fdN (gT ts i).kd (gT ts i).m (gT ts i).nu (gT ts i).h (gT ts i).ks.length))]) (fun _=>[]) (cR [[0]]<|cC (fun _ w=>dfields_any (gT ts i).kd (gT ts i).m (gT ts i).nu (gT ts i).h (gT ts i).ka (gT ts i).kc (gT ts i).ks (ho.gT i).h w)<|jE [[]]) (fun _=>?_)
  refine oC (!(fdN (gT ts i).kd (gT ts i).m (gT ts i).nu (gT ts i).h (gT ts i).ks.length)) (fun hb5=>?_) (fun hb5=>?_)
  ·
   rw [hb5]
   refine jJ Tryz.f24 1 [0,2,22,23,24] [vF] (aF (aP (aC (aC (aP (aC ?_))))))
   exact mR (v:=vF) (fun _ hS=>⟨jB (vl_c (sZ (f:=bW.fd) (l:=ts) (by have:=yF hb1;have:=yF hb2;omega) (dF hb5) hA)),hS.bel⟩)
  rw [hb5]
  refine aG (aJ (aA ?_))
  refine rS Tryz.f24 2 [0,22,23,24] [] (fun _=>[vn (i+1),vn (i+1)]) (fun _=>[]) (jW (fun ρ=>(((i:Nat):Int)+1)) (fun _=>(i+1)) (fun _=>(aW i 1 (by have:=yF hb1;have:=yF hb2;omega)))<|jE [[]]) (fun _=>?_)
  exact mN (i+1) (by show ts.length-(i+1)<ts.length-i;have:=yF hb1;have:=yF hb2;omega) (⟨(by have:=yF hb1;have:=yF hb2;omega),sF (f:=bW.fd) (l:=ts) (by have:=yF hb1;have:=yF hb2;omega) (aV hb5) hA⟩) []
 rw [hb4]
 have:=yF hb4
 refine bF (aN (aN (aT (aA (aB (jJ Tryz.f24 3 [32,33,34] [.slice a ts.length c,vn ts.length,vi 0] (aI ?_)))))))
 refine oL (σ:=Nat) (fun i2=>[(32,(.slice a ts.length c)),(33,(vn ts.length)),(34,(vn i2))]) (fun _=>[]) (fun i2=>ts.length-i2)
   (fun i2=>(i2≤ts.length)∧((ts.drop i2).all bW.vk=ts.all bW.vk)) 0 (⟨Nat.zero_le _,rfl⟩) [] ?_
 rintro i2 ⟨hi2,hB⟩
 change Ok Tryz.prog _ _ 50 [(32,(.slice a ts.length c)),(33,(vn ts.length)),(34,(vn i2))] _ [] (fun w=>bM w a c ts∧True)
 refine jJ Tryz.f24 1 [32,33,34,35] [.bool (decide (((i2:Nat):Int)<((ts.length:Nat):Int)))] (aB ?_)
 refine oC (decide (((i2:Nat):Int)<((ts.length:Nat):Int))) (fun hb6=>?_) (fun hb6=>?_)
 ·
  rw [hb6]
  have:=yT hb6
  refine aG (aA (aB (aI ?_)))
  refine sS Tryz.f24 4 [6,32,33,34] [] (fun ρ=>[.pointer (fK a (i2*36)),.agg (bW.row (gT ts i2)),pt (nb ρ 2),undef]) (fun ρ=>[(2,(nw ρ 2 (cL (iC 0 0 0 0 vz) 50))),(3,(bD 16 (nb ρ 2) (cL (bW.row (gT ts i2)) 50)))]) (cX (qF (fun _ _ _ hG=>bM.idx (k:=.i64) Tryz.underlying24 Tryz.sizeOf50 hG.fn.1 rfl (show ((i2:Nat):Int)=((i2:Nat):Int) from rfl) (show i2<ts.length from (by have:=yF hb1;have:=yF hb2;omega))))<|cX (qF (fun _ _ _ hG=>bM.ldA (i:=i2) Tryz.isAgg50 Tryz.sizeOf50 hG.fn.1 (show i2<ts.length from (by have:=yF hb1;have:=yF hb2;omega))))<|jE [[],[16]]) (fun ρ16=>?_)
  refine jM Tryz.f24 4 [32,33,34,39,40,41] [0] [jp (nb ρ16 2) 35,.slice (gT ts i2).ka (gT ts i2).ks.length (gT ts i2).kc,vn (gT ts i2).ks.length,vi 0] [[],[0],[],[]] (aI ?_)
  refine oL (σ:=Nat) (fun k=>[(32,(.slice a ts.length c)),(33,(vn ts.length)),(34,(vn i2)),(39,(.slice (gT ts i2).ka (gT ts i2).ks.length (gT ts i2).kc)),(40,(vn (gT ts i2).ks.length)),(41,(vn k))]) (fun _=>[]) (fun k=>(gT ts i2).ks.length-k)
    (fun k=>(k≤(gT ts i2).ks.length)∧(((gT ts i2).ks.drop k).all dO.vp=(gT ts i2).ks.all dO.vp)) 0 (⟨Nat.zero_le _,rfl⟩) [] ?_
  rintro k ⟨hk,hC⟩
  change Ok Tryz.prog _ _ 50 [(32,(.slice a ts.length c)),(33,(vn ts.length)),(34,(vn i2)),(39,(.slice (gT ts i2).ka (gT ts i2).ks.length (gT ts i2).kc)),(40,(vn (gT ts i2).ks.length)),(41,(vn k))] _ [] (fun w=>bM w a c ts∧True)
  have hkl:(gT ts i2).ks.length≤1000000:=ho.klen hf0 i2
  refine jJ Tryz.f24 1 [32,33,34,39,40,41,42] [.bool (decide (((k:Nat):Int)<(((gT ts i2).ks.length:Nat):Int)))] (aB ?_)
  refine oC (decide (((k:Nat):Int)<(((gT ts i2).ks.length:Nat):Int))) (fun hb7=>?_) (fun hb7=>?_)
  ·
   rw [hb7]
   have:=yT hb7
   refine aG (aA (aB (aI ?_)))
   refine sS Tryz.f24 4 [8,32,33,34,39,40,41] [] (fun ρ=>[.pointer (fK (gT ts i2).ka (k*45)),.agg (dO.row (gK (gT ts i2).ks k)),pt (nb ρ 2),undef]) (fun ρ=>[(2,(nw ρ 2 (cL (kM 0 0 0 0 0 0 vz vF) 59))),(3,(bD 16 (nb ρ 2) (cL (dO.row (gK (gT ts i2).ks k)) 59)))]) (cX (qF (fun _ _ _ hG=>oG.idx (k:=.i64) Tryz.underlying48 Tryz.sizeOf59 (hG.fn.1.sub _ (xAE (show i2<ts.length from (by have:=yF hb1;have:=yF hb2;omega)))) rfl (show ((k:Nat):Int)=((k:Nat):Int) from rfl) (show k<(gT ts i2).ks.length from (by have:=yF hb1;have:=yF hb2;omega))))<|cX (qF (fun _ _ _ hG=>oG.ldA (i:=k) Tryz.isAgg59 Tryz.sizeOf59 (hG.fn.1.sub _ (xAE (show i2<ts.length from (by have:=yF hb1;have:=yF hb2;omega)))) (show k<(gT ts i2).ks.length from (by have:=yF hb1;have:=yF hb2;omega))))<|jE [[],[16]]) (fun _=>?_)
   refine sS Tryz.f24 3 [32,33,34,39,40,41,47] [0] (fun _=>[.agg (dO.row (gK (gT ts i2).ks k)),.bool (dO.vp (gK (gT ts i2).ks k)),.bool (!(dO.vp (gK (gT ts i2).ks k)))]) (fun _=>[]) (cR [[0]]<|cX (qC (fun _ _ w hG=>dvpath_any (gK (gT ts i2).ks k) (ho.gK i2 k) w ((hG.fn.1.sub _ (xAE (show i2<ts.length from (by have:=yF hb1;have:=yF hb2;omega)))).sub _ (nU (show k<(gT ts i2).ks.length from (by have:=yF hb1;have:=yF hb2;omega))))))<|jE [[]]) (fun _=>?_)
   refine oC (!(dO.vp (gK (gT ts i2).ks k))) (fun hb8=>?_) (fun hb8=>?_)
   ·
    rw [hb8]
    refine jJ Tryz.f24 1 [2,32,33,34,39,40,41] [vF] (aF (aP (aC (aC (aP (aP (aC (aC (aP (aC ?_))))))))))
    exact mR (v:=vF) (fun _ hS=>⟨jB (vl_d (sZ (f:=bW.vk) (l:=ts) (by have:=yF hb1;have:=yF hb2;omega) (sZ (f:=dO.vp) (l:=(gT ts i2).ks) (by have:=yF hb1;have:=yF hb2;omega) (dF hb8) hC) hB)),hS.bel⟩)
   rw [hb8]
   refine aG (aJ (aA ?_))
   refine rS Tryz.f24 2 [32,33,34,39,40,41] [] (fun _=>[vn (k+1),vn (k+1)]) (fun _=>[]) (jW (fun ρ=>(((k:Nat):Int)+1)) (fun _=>(k+1)) (fun _=>(aW k 1 (by have:=yF hb1;have:=yF hb2;omega)))<|jE [[]]) (fun _=>?_)
   exact mN (k+1) (by show (gT ts i2).ks.length-(k+1)<(gT ts i2).ks.length-k;have:=yF hb1;have:=yF hb2;omega) (⟨(by have:=yF hb1;have:=yF hb2;omega),sF (f:=dO.vp) (l:=(gT ts i2).ks) (by have:=yF hb1;have:=yF hb2;omega) (aV hb8) hC⟩) []
  rw [hb7]
  have:=yF hb7
  refine bF (aN (aN (aT (aJ (aA ?_)))))
  refine rS Tryz.f24 2 [32,33,34] [] (fun _=>[vn (i2+1),vn (i2+1)]) (fun _=>[]) (jW (fun ρ=>(((i2:Nat):Int)+1)) (fun _=>(i2+1)) (fun _=>(aW i2 1 (by have:=yF hb1;have:=yF hb2;omega)))<|jE [[]]) (fun _=>?_)
  exact mN (i2+1) (by show ts.length-(i2+1)<ts.length-i2;have:=yF hb1;have:=yF hb2;omega) (⟨(by have:=yF hb1;have:=yF hb2;omega),sF (f:=bW.vk) (l:=ts) (by have:=yF hb1;have:=yF hb2;omega) (xH (f:=dO.vp) (l:=(gT ts i2).ks) (by have:=yF hb1;have:=yF hb2;omega) hC) hB⟩) []
 rw [hb6]
 have:=yF hb6
 refine bF (aN (aN (aT (aA (jJ Tryz.f24 1 [2] [vT] (aF ?_))))))
 exact mR (v:=vT) (fun _ hS=>⟨jB (vl_e (by have:=yF hb1;have:=yF hb2;omega) (aV hb3) (xH (f:=bW.fd) (l:=ts) (by have:=yF hb1;have:=yF hb2;omega) hA) (xH (f:=bW.vk) (l:=ts) (by have:=yF hb1;have:=yF hb2;omega) hB)),hS.bel⟩)
theorem xCB (a:Option Addr) (c:Nat) (ts:List bW) (w0:World) (hf0:bM w0 a c ts):Calls Tryz.prog 18 #[.slice a ts.length c] w0 (jR (.bool (xW ts)) w0):=by
 refine Calls.of_ok (n:=47) (F:=(fun w=>bM w a c ts∧True)) Tryz.func18 rfl rfl rfl (by simp) (hf0.pers0.and cO) ?_
 have hlen:ts.length≤1000000:=hf0.max
 have ho:mP ts:=hf0.oks
 refine jJ Tryz.f18 1 [0,2] [vF] (aB ?_)
 refine sS Tryz.f18 3 [0,2,8] [] (fun _=>[.slice a ts.length c,.bool (shB ts),.bool (!(shB ts))]) (fun _=>[]) (cR [[]]<|cX (qC (fun _ _ w hG=>rdshaped_any a c ts w hG.fn.1))<|jE [[]]) (fun _=>?_)
 refine oC (!(shB ts)) (fun hb1=>?_) (fun hb1=>?_)
 ·
  rw [hb1]
  refine jJ Tryz.f18 1 [0,2] [vF] (aF (aC ?_))
  exact mR (v:=vF) (fun _ hS=>⟨jB (sh_no (dF hb1)),hS.bel⟩)
 rw [hb1]
 refine aG (aA (aB (jJ Tryz.f18 1 [0,2,3] [vi 0] (aI ?_))))
 refine oL (σ:=Nat) (fun i=>[(0,(.slice a ts.length c)),(3,(vn i))]) (fun _=>[]) (fun i=>ts.length-i)
   (fun i=>(i≤ts.length)∧((ts.drop i).all bW.fd=ts.all bW.fd)) 0 (⟨Nat.zero_le _,rfl⟩) [] ?_
 rintro i ⟨hi,hA⟩
 change Ok Tryz.prog _ _ 47 [(0,(.slice a ts.length c)),(3,(vn i))] _ [] (fun w=>bM w a c ts∧True)
 refine aB (jJ Tryz.f18 4 [0,3,12] [vn i,.slice a ts.length c,vn ts.length,.bool (decide (((i:Nat):Int)<((ts.length:Nat):Int)))] ?_)
 refine oC (decide (((i:Nat):Int)<((ts.length:Nat):Int))) (fun hb2=>?_) (fun hb2=>?_)
 ·
  rw [hb2]
  have:=yT hb2
  refine aG (aA (aB (aI ?_)))
  refine sS Tryz.f18 6 [0,3,20] [] (fun _=>[.slice a ts.length c,vn i,.pointer (fK a (i*36)),.agg (bW.row (gT ts i)),.bool (fdN (gT ts i).kd (gT ts i).m (gT ts i).nu (gT ts i).h (gT ts i).ks.length),.bool (!(fdN (gT ts i).kd (gT ts i).m (gT ts i).nu (gT ts i).h (gT ts i).ks.length))]) (fun _=>[]) (cR [[],[]]<|cX (qF (fun _ _ _ hG=>bM.idx (k:=.i64) Tryz.underlying24 Tryz.sizeOf50 hG.fn.1 rfl (show ((i:Nat):Int)=((i:Nat):Int) from rfl) (show i<ts.length from (by omega))))<|cX (qF (fun _ _ _ hG=>bM.ldA (i:=i) Tryz.isAgg50 Tryz.sizeOf50 hG.fn.1 (show i<ts.length from (by omega))))<|cC (fun _ w=>rdfields_any (gT ts i).kd (gT ts i).m (gT ts i).nu (gT ts i).h (gT ts i).ka (gT ts i).kc (gT ts i).ks (ho.gT i).h w)<|jE [[]]) (fun _=>?_)
  refine oC (!(fdN (gT ts i).kd (gT ts i).m (gT ts i).nu (gT ts i).h (gT ts i).ks.length)) (fun hb3=>?_) (fun hb3=>?_)
  ·
   rw [hb3]
   refine jJ Tryz.f18 1 [0,2,3] [vF] (aF (aP (aC (aC (aP (aC ?_))))))
   exact mR (v:=vF) (fun _ hS=>⟨jB (vl_c (sZ (f:=bW.fd) (l:=ts) (by omega) (dF hb3) hA)),hS.bel⟩)
  rw [hb3]
  refine aG (aJ (aA ?_))
  refine rS Tryz.f18 3 [0,3] [] (fun _=>[vn i,vn (i+1),vn (i+1)]) (fun _=>[]) (cR [[]]<|jW (fun ρ=>(((i:Nat):Int)+1)) (fun _=>(i+1)) (fun _=>(aW i 1 (by omega)))<|jE [[]]) (fun _=>?_)
  exact mN (i+1) (by show ts.length-(i+1)<ts.length-i;omega) (⟨(by omega),sF (f:=bW.fd) (l:=ts) (by omega) (aV hb3) hA⟩) []
 rw [hb2]
 have:=yF hb2
 refine bF (aN (aN (aT (aA (aB (jJ Tryz.f18 1 [0,4] [vi 0] (aI ?_)))))))
 refine oL (σ:=Nat) (fun i2=>[(0,(.slice a ts.length c)),(4,(vn i2))]) (fun _=>[]) (fun i2=>ts.length-i2)
   (fun i2=>(i2≤ts.length)∧((ts.drop i2).all bW.vk=ts.all bW.vk)) 0 (⟨Nat.zero_le _,rfl⟩) [] ?_
 rintro i2 ⟨hi2,hB⟩
 change Ok Tryz.prog _ _ 47 [(0,(.slice a ts.length c)),(4,(vn i2))] _ [] (fun w=>bM w a c ts∧True)
 refine aB (jJ Tryz.f18 4 [0,4,24] [vn i2,.slice a ts.length c,vn ts.length,.bool (decide (((i2:Nat):Int)<((ts.length:Nat):Int)))] ?_)
 refine oC (decide (((i2:Nat):Int)<((ts.length:Nat):Int))) (fun hb4=>?_) (fun hb4=>?_)
 ·
  rw [hb4]
  have:=yT hb4
  refine aG (aA (aB (aI (jJ Tryz.f18 1 [0,4,5] [vi 0] (aI ?_)))))
  refine oL (σ:=Nat) (fun k=>[(0,(.slice a ts.length c)),(4,(vn i2)),(5,(vn k))]) (fun _=>[]) (fun k=>(gT ts i2).ks.length-k)
    (fun k=>(k≤(gT ts i2).ks.length)∧(((gT ts i2).ks.drop k).all dO.vp=(gT ts i2).ks.all dO.vp)) 0 (⟨Nat.zero_le _,rfl⟩) [] ?_
  rintro k ⟨hk,hC⟩
  change Ok Tryz.prog _ _ 47 [(0,(.slice a ts.length c)),(4,(vn i2)),(5,(vn k))] _ [] (fun w=>bM w a c ts∧True)
  have hkl:(gT ts i2).ks.length≤1000000:=ho.klen hf0 i2
  refine aB ?_
  refine sS Tryz.f18 8 [0,4,5,34] [] (fun _=>[vn k,.slice a ts.length c,vn i2,.pointer (fK a (i2*36)),.pointer (fK a (i2*36+35)),.slice (gT ts i2).ka (gT ts i2).ks.length (gT ts i2).kc,vn (gT ts i2).ks.length,.bool (decide (((k:Nat):Int)<(((gT ts i2).ks.length:Nat):Int)))]) (fun _=>[]) (cR [[],[],[]]<|cX (qF (fun _ _ _ hG=>bM.idx (k:=.i64) Tryz.underlying24 Tryz.sizeOf50 hG.fn.1 rfl (show ((i2:Nat):Int)=((i2:Nat):Int) from rfl) (show i2<ts.length from (by omega))))<|cX (jF (fun _=>Instr.fieldAt 50 (.pointer (fK a (i2*36))) 4) (fun _=>(.pointer (fK a (i2*36+35)))) (fun _ _ _ hG=>uH (o:=35) (k:=i2*36) Tryz.underlying50 rfl rfl rfl Tryz.sizeOf48 (hG.fn.1.pos (show i2<ts.length from (by omega))).1 (hG.fn.1.pos (show i2<ts.length from (by omega))).2) (fun _ _ _ _=>cO))<|cX (qF (fun _ _ _ hG=>bM.ld (v:=(.slice (gT ts i2).ka (gT ts i2).ks.length (gT ts i2).kc)) (i:=i2) (j:=35) Tryz.isAgg48 hG.fn.1 (show i2<ts.length from (by omega)) (by decide) (by kernel_rfl)))<|jE [[],[]]) (fun _=>?_)
  refine oC (decide (((k:Nat):Int)<(((gT ts i2).ks.length:Nat):Int))) (fun hb5=>?_) (fun hb5=>?_)
  ·
   rw [hb5]
   have:=yT hb5
   refine aG (aA (aB (aI ?_)))
   refine sS Tryz.f18 10 [0,4,5,46] [] (fun _=>[.slice a ts.length c,vn i2,.pointer (fK a (i2*36)),.pointer (fK a (i2*36+35)),.slice (gT ts i2).ka (gT ts i2).ks.length (gT ts i2).kc,vn k,.pointer (fK (gT ts i2).ka (k*45)),.agg (dO.row (gK (gT ts i2).ks k)),.bool (dO.vp (gK (gT ts i2).ks k)),.bool (!(dO.vp (gK (gT ts i2).ks k)))]) (fun _=>[]) (cR [[],[]]<|cX (qF (fun _ _ _ hG=>bM.idx (k:=.i64) Tryz.underlying24 Tryz.sizeOf50 hG.fn.1 rfl (show ((i2:Nat):Int)=((i2:Nat):Int) from rfl) (show i2<ts.length from (by omega))))<|cX (jF (fun _=>Instr.fieldAt 50 (.pointer (fK a (i2*36))) 4) (fun _=>(.pointer (fK a (i2*36+35)))) (fun _ _ _ hG=>uH (o:=35) (k:=i2*36) Tryz.underlying50 rfl rfl rfl Tryz.sizeOf48 (hG.fn.1.pos (show i2<ts.length from (by omega))).1 (hG.fn.1.pos (show i2<ts.length from (by omega))).2) (fun _ _ _ _=>cO))<|cX (qF (fun _ _ _ hG=>bM.ld (v:=(.slice (gT ts i2).ka (gT ts i2).ks.length (gT ts i2).kc)) (i:=i2) (j:=35) Tryz.isAgg48 hG.fn.1 (show i2<ts.length from (by omega)) (by decide) (by kernel_rfl)))<|cR [[]]<|cX (qF (fun _ _ _ hG=>oG.idx (k:=.i64) Tryz.underlying48 Tryz.sizeOf59 (hG.fn.1.sub _ (xAE (show i2<ts.length from (by omega)))) rfl (show ((k:Nat):Int)=((k:Nat):Int) from rfl) (show k<(gT ts i2).ks.length from (by omega))))<|cX (qF (fun _ _ _ hG=>oG.ldA (i:=k) Tryz.isAgg59 Tryz.sizeOf59 (hG.fn.1.sub _ (xAE (show i2<ts.length from (by omega)))) (show k<(gT ts i2).ks.length from (by omega))))<|cX (qC (fun _ _ w hG=>rdvpath_any (gK (gT ts i2).ks k) (ho.gK i2 k) w ((hG.fn.1.sub _ (xAE (show i2<ts.length from (by omega)))).sub _ (nU (show k<(gT ts i2).ks.length from (by omega))))))<|jE [[]]) (fun _=>?_)
   refine oC (!(dO.vp (gK (gT ts i2).ks k))) (fun hb6=>?_) (fun hb6=>?_)
   ·
    rw [hb6]
    refine jJ Tryz.f18 1 [0,2,4,5] [vF] (aF (aP (aC (aC (aP (aP (aC (aC (aP (aC ?_))))))))))
    exact mR (v:=vF) (fun _ hS=>⟨jB (vl_d (sZ (f:=bW.vk) (l:=ts) (by omega) (sZ (f:=dO.vp) (l:=(gT ts i2).ks) (by omega) (dF hb6) hC) hB)),hS.bel⟩)
   rw [hb6]
   refine aG (aJ (aA ?_))
   refine rS Tryz.f18 3 [0,4,5] [] (fun _=>[vn k,vn (k+1),vn (k+1)]) (fun _=>[]) (cR [[]]<|jW (fun ρ=>(((k:Nat):Int)+1)) (fun _=>(k+1)) (fun _=>(aW k 1 (by omega)))<|jE [[]]) (fun _=>?_)
   exact mN (k+1) (by show (gT ts i2).ks.length-(k+1)<(gT ts i2).ks.length-k;omega) (⟨(by omega),sF (f:=dO.vp) (l:=(gT ts i2).ks) (by omega) (aV hb6) hC⟩) []
  rw [hb5]
  have:=yF hb5
  refine bF (aN (aN (aT (aJ (aA ?_)))))
  refine rS Tryz.f18 3 [0,4] [] (fun _=>[vn i2,vn (i2+1),vn (i2+1)]) (fun _=>[]) (cR [[]]<|jW (fun ρ=>(((i2:Nat):Int)+1)) (fun _=>(i2+1)) (fun _=>(aW i2 1 (by omega)))<|jE [[]]) (fun _=>?_)
  exact mN (i2+1) (by show ts.length-(i2+1)<ts.length-i2;omega) (⟨(by omega),sF (f:=bW.vk) (l:=ts) (by omega) (xH (f:=dO.vp) (l:=(gT ts i2).ks) (by omega) hC) hB⟩) []
 rw [hb4]
 refine bF (aN (aN (aT (aA (jJ Tryz.f18 1 [2] [vT] (aF ?_))))))
 exact mR (v:=vT) (fun _ hS=>⟨jB (vl_e (sh_yes (aV hb1)).1 (sh_yes (aV hb1)).2 (xH (f:=bW.fd) (l:=ts) (by have:=yF hb4;omega) hA) (xH (f:=bW.vk) (l:=ts) (by have:=yF hb4;omega) hB)),hS.bel⟩)
open Go Go.Shelf Go.RowKit Go.Lib
theorem laysM171:Go.Proofs.LaysM.n171 Tryz.prog lays171_ren:={ lays171 with
  i0:=by kernel_rfl
  i2:=by kernel_rfl
  i3:=by kernel_rfl
  i4:=by kernel_rfl
  i5:=by kernel_rfl
  i9:=by kernel_rfl
  i20:=by kernel_rfl
  i37:=by kernel_rfl
  i46:=by kernel_rfl
  i51:=by kernel_rfl
  i53:=by kernel_rfl
  i171:=by kernel_rfl
  i173:=by kernel_rfl
  i212:=by kernel_rfl
  i232:=by kernel_rfl
  i233:=by kernel_rfl
  m17:=by kernel_rfl
  m18:=by kernel_rfl
  m19:=by kernel_rfl}
theorem itoa_any (m:Int) (h:0≤m∧m<4294967296) (w:World) (hp:xB w):Calls Tryz.prog 43 #[.int .i64 m] w (fun ε w'=>ε=.returned (.string (gY (dS m.toNat)))∧Below w.heap.size w w'):=by
  have e:m=((m.toNat:Nat):Int):=by omega
  refine (Any.strconv_Itoa laysM171 m (by omega) (by omega) w hp).mono (fun ε w' ⟨h1,k,os,h2⟩=>⟨?_,?_⟩)
  · rw [h1]
    have:Lib.itoa m=Lib.decDigits m.toNat:=by
      unfold Lib.itoa
      rw [if_neg (by omega)]
    rw [this];rfl
  · rw [h2];exact Lib.below_grow w.heap.size w (Nat.le_refl _) k os
theorem nm_at (kd:Int) (h:1≤kd∧kd≤6) (w:World):(do pure (Next.value (← Instr.index 78 (.agg #[.string ⟨#[]⟩,.string ⟨#[107,101,121]⟩,.string ⟨#[109,117,108,116,105]⟩,.string ⟨#[97,102,116,101,114]⟩,.string ⟨#[111,108,100,101,114]⟩,.string ⟨#[104,97,115,104]⟩,.string ⟨#[101,105,116,104,101,114]⟩]) (.int .i64 kd))):Sem Next).run Tryz.prog w=.ok (.value (.string (gY (kZ kd)))) w:=by
  rcases (by omega:kd=1∨kd=2∨kd=3∨kd=4∨kd=5∨kd=6) with rfl | rfl | rfl | rfl | rfl | rfl<;>kernel_rfl
theorem slT_q {x y:Int} (h:x=y):(x==y)=true:=by rw [h];exact beq_self_eq_true y
def BdC (s:Tq) (x:List UInt8) (s':Tq):Prop:=∀ w0:World,bM w0 s.ta s.tc s.ts→xB w0→Calls Tryz.prog 25 #[.slice s.ta s.ts.length s.tc] w0 (jR (.tuple #[.string (gY x),.slice s'.ta s'.ts.length s'.tc]) w0)
theorem wO  (w0:World):Calls Tryz.prog 41 #[] w0 (jR (.agg #[.string ⟨#[]⟩,.string ⟨#[107,101,121]⟩,.string ⟨#[109,117,108,116,105]⟩,.string ⟨#[97,102,116,101,114]⟩,.string ⟨#[111,108,100,101,114]⟩,.string ⟨#[104,97,115,104]⟩,.string ⟨#[101,105,116,104,101,114]⟩]) w0):=by
 refine Calls.of_ok (n:=2) (F:=(fun _=>True)) Tryz.func41 rfl rfl rfl (by simp) jT ?_
 refine sS Tryz.f41 1 [0] [] (fun ρ=>[pt (nb ρ 0)]) (fun ρ=>[(0,(nw ρ 0 (cL #[.string ⟨#[]⟩,.string ⟨#[]⟩,.string ⟨#[]⟩,.string ⟨#[]⟩,.string ⟨#[]⟩,.string ⟨#[]⟩,.string ⟨#[]⟩] 78)))]) (jE [[]]) (fun ρ1=>?_)
 refine sS Tryz.f41 2 [0] [] (fun _=>[.agg #[.string ⟨#[]⟩,.string ⟨#[107,101,121]⟩,.string ⟨#[109,117,108,116,105]⟩,.string ⟨#[97,102,116,101,114]⟩,.string ⟨#[111,108,100,101,114]⟩,.string ⟨#[104,97,115,104]⟩,.string ⟨#[101,105,116,104,101,114]⟩],undef]) (fun _=>[(1,(bD 0 (nb ρ1 0) (cL #[.string ⟨#[]⟩,.string ⟨#[107,101,121]⟩,.string ⟨#[109,117,108,116,105]⟩,.string ⟨#[97,102,116,101,114]⟩,.string ⟨#[111,108,100,101,114]⟩,.string ⟨#[104,97,115,104]⟩,.string ⟨#[101,105,116,104,101,114]⟩] 78)))]) (jE [[],[0]]) (fun _=>?_)
 refine aF ?_
 exact mR (v:=(.agg #[.string ⟨#[]⟩,.string ⟨#[107,101,121]⟩,.string ⟨#[109,117,108,116,105]⟩,.string ⟨#[97,102,116,101,114]⟩,.string ⟨#[111,108,100,101,114]⟩,.string ⟨#[104,97,115,104]⟩,.string ⟨#[101,105,116,104,101,114]⟩])) (fun _ hS=>⟨rfl,hS.bel⟩)
theorem body1_any (s:Tq) (hk:(gT s.ts 0).kd=1) (h0:0<s.ts.length) (hfd:(gT s.ts 0).fw=true) (ho:mP s.ts) (hq:TxS s.ts) (w0:World) (hf0:bM w0 s.ta s.tc s.ts) (hf1:xB w0):Calls Tryz.prog 25 #[.slice s.ta s.ts.length s.tc] w0 (jR (.tuple #[.string (gY (nK (gK (gT s.ts 0).ks 0))),.slice s.go.ta s.go.ts.length s.go.tc]) w0):=by
 refine Calls.of_ok (n:=76) (F:=(fun w=>bM w s.ta s.tc s.ts∧xB w∧True)) Tryz.func25 rfl rfl rfl (by simp) (hf0.pers0.and (hf1.pers0.and cO)) ?_
 have hkl:(gT s.ts 0).ks.length=1:=(by have:=fw_iff hfd;unfold FwP at this;omega)
 have hlen:s.ts.length≤1000000:=hf0.max
 refine jJ Tryz.f25 2 [0,2,3] [.string ⟨#[]⟩,vz] ?_
 refine sDf Tryz.f25 [0,1,3,0,8,0,39,127] 8 [0,2,3,4] [] (fun ρ=>let qa:Value:=.slice (jA s.ta s.tc 1 36) s.ts.tail.length (s.tc-1);let qb:Value:=.slice s.ta s.ts.length s.tc;[qb,.pointer (fK s.ta (0*36)),.agg (bW.row (gT s.ts 0)),qb,qa,pt (nb ρ 5),undef,qa]) (fun ρ=>[(5,(nw ρ 5 (cL (iC 0 0 0 0 vz) 50))),(6,(bD 40 (nb ρ 5) (cL (bW.row (gT s.ts 0)) 50)))]) (fun _=>[(4,fun w=>bM w (jA s.ta s.tc 1 36) (s.tc-1) s.ts.tail)]) (fun _=>(fun w=>bM w s.ta s.tc s.ts∧xB w∧bM w (jA s.ta s.tc 1 36) (s.tc-1) s.ts.tail∧True)) (fun _=>True) (fun _ _ hF hf=>⟨⟨hF.1,hF.2.1,hf 4,trivial⟩,trivial⟩) (cR [[]]<|cX (qF (fun _ _ _ hG=>bM.idx (k:=.i64) Tryz.underlying24 Tryz.sizeOf50 hG.fn.1 rfl (show 0=((0:Nat):Int) from rfl) (show 0<s.ts.length from h0)))<|cX (qF (fun _ _ _ hG=>bM.ldA (i:=0) Tryz.isAgg50 Tryz.sizeOf50 hG.fn.1 (show 0<s.ts.length from h0)))<|cR [[]]<|cX (jF (fun _=>Instr.sliceAt 24 (.slice s.ta s.ts.length s.tc) (some (vi 1)) none none) (fun _=>(.slice (jA s.ta s.tc 1 36) s.ts.tail.length (s.tc-1))) (fun _ _ _ hG=>fP (k:=1) Tryz.underlying24 Tryz.sizeOf50 rfl (jI (rfl)) h0 hG.fn.1.le (by rw [List.length_tail])) (fun _ _ w hG=>hG.facts0.mono (fun _ hF=>hF.1.tail h0)))<|jE [[],[40],[]]) (fun ρ2 _=>?_)
 refine sD Tryz.f25 [0,0,2,7,15,0,63] 7 [0,2,3,4,5] [] (fun ρ=>[.agg #[.string ⟨#[]⟩,.string ⟨#[107,101,121]⟩,.string ⟨#[109,117,108,116,105]⟩,.string ⟨#[97,102,116,101,114]⟩,.string ⟨#[111,108,100,101,114]⟩,.string ⟨#[104,97,115,104]⟩,.string ⟨#[101,105,116,104,101,114]⟩],pt (nb ρ2 5),vi (gT s.ts 0).kd,.string (gY (kZ (gT s.ts 0).kd)),.string (gY ((kZ (gT s.ts 0).kd)++([40]:List UInt8))),pt (nb ρ 5),undef]) (fun ρ=>[(5,(nw ρ 5 (cL #[.string ⟨#[]⟩] 9))),(6,(bD 41 (nb ρ 5) (cL #[.string (gY ((kZ (gT s.ts 0).kd)++([40]:List UInt8)))] 9)))]) (cC (fun _ w=>wO w)<|cR [[],[0]]<|cX (jS (fun _=>Instr.index 78 (.agg #[.string ⟨#[]⟩,.string ⟨#[107,101,121]⟩,.string ⟨#[109,117,108,116,105]⟩,.string ⟨#[97,102,116,101,114]⟩,.string ⟨#[111,108,100,101,114]⟩,.string ⟨#[104,97,115,104]⟩,.string ⟨#[101,105,116,104,101,114]⟩]) (vi (gT s.ts 0).kd)) (fun _=>(.string (gY (kZ (gT s.ts 0).kd)))) (fun _ w=>nm_at _ (by omega) w))<|cB (a:=fun ρ=>(.string (gY (kZ (gT s.ts 0).kd)))) (b:=fun ρ=>(.string (gY ([40]:List UInt8)))) (v:=fun ρ=>(.string (gY ((kZ (gT s.ts 0).kd)++([40]:List UInt8))))) .add 9 (fun _ w=>jP (kZ (gT s.ts 0).kd) ([40]:List UInt8) (by have q1:=jY (gT s.ts 0).kd;have q2:=hq _ (xAE h0) _ (nU (show 0<(gT s.ts 0).ks.length by rw [hkl];decide));simp only [List.length_cons,List.length_nil] at *;omega) w)<|jE [[],[41]]) (fun ρ3=>?_)
 refine sS Tryz.f25 2 [0,2,3,4,5,6] [] (fun ρ=>[pt (nb ρ 0),undef]) (fun ρ=>[(0,(nw ρ 0 (cL #[.string ⟨#[]⟩] 9))),(1,(bD 2 (nb ρ 0) (cL #[.string ⟨#[]⟩] 9)))]) (jE [[],[2]]) (fun ρ4=>?_)
 refine jJ Tryz.f25 2 [0,2,3,4,5,7] [.func (.func 42) #[] #[pt (nb ρ3 5),pt (nb ρ4 0)],.func (.func 42) #[] #[pt (nb ρ3 5),pt (nb ρ4 0)]] (aB (jM Tryz.f25 2 [0,2,3,4,5,7,23] [] [pt (nb ρ2 5),vi (gT s.ts 0).kd] [[],[0]] (aI ?_)))
 refine sS Tryz.f25 2 [0,2,3,4,5,7,23,24] [] (fun _=>[vF,vF]) (fun _=>[]) (jQ (fun ρ=>((gT s.ts 0).kd==2)) false (fun _=>(jK hk rfl))<|jE [[]]) (fun _=>?_)
 refine lK [(0,(.slice (jA s.ta s.tc 1 36) s.ts.tail.length (s.tc-1))),(2,(.string ⟨#[]⟩)),(3,vz),(4,(pt (nb ρ2 5))),(5,(pt (nb ρ3 5))),(7,(.func (.func 42) #[] #[pt (nb ρ3 5),pt (nb ρ4 0)])),(23,(vi (gT s.ts 0).kd)),(24,vF)] [(nb ρ2 5,(cL (bW.row (gT s.ts 0)) 50)),(nb ρ3 5,(cL #[.string (gY ((kZ (gT s.ts 0).kd)++([40]:List UInt8)))] 9)),(nb ρ4 0,(cL #[.string ⟨#[]⟩] 9))] ?_
 refine oN ?_
 refine aB ?_
 refine sS Tryz.f25 2 [0,2,3,4,5,7,23,31] [] (fun _=>[vF,vF]) (fun _=>[]) (jQ (fun ρ=>((gT s.ts 0).kd==3)) false (fun _=>(jK hk rfl))<|jE [[]]) (fun _=>?_)
 refine oN ?_
 refine rS Tryz.f25 2 [0,2,3,4,5,7,23,31] [] (fun _=>[vF,vF]) (fun _=>[]) (jQ (fun ρ=>((gT s.ts 0).kd==4)) false (fun _=>(jK hk rfl))<|jE [[]]) (fun _=>?_)
 refine aA ?_
 refine oN ?_
 refine sS Tryz.f25 2 [0,2,3,4,5,7,40] [] (fun _=>[vF,vF]) (fun _=>[]) (jQ (fun ρ=>((gT s.ts 0).kd==5)) false (fun _=>(jK hk rfl))<|jE [[]]) (fun _=>?_)
 refine oN ?_
 refine aG (aJ (aA (aB (jM Tryz.f25 4 [0,2,3,4,5,7,48,49,50] [] [jp (nb ρ2 5) 35,.slice (gT s.ts 0).ka (gT s.ts 0).ks.length (gT s.ts 0).kc,vn (gT s.ts 0).ks.length,vi 0] [[],[0],[],[]] (aI ?_)))))
 refine kX 2 ?_
 refine dI ?_
 refine sS Tryz.f25 1 [0,2,3,4,5,7,48,49,50,51] [] (fun _=>[vT]) (fun _=>[]) (jQ (fun ρ=>(decide (0<(((gT s.ts 0).ks.length:Nat):Int)))) true (fun _=>(show (decide (0<(((gT s.ts 0).ks.length:Nat):Int)))=true by as_aux_lemma=>rw [hkl];rfl))<|cN) (fun _=>?_)
 refine aB ?_
 refine oY ?_
 refine aG (aA (aB (aI ?_)))
 refine sS Tryz.f25 4 [0,2,3,4,5,7,9,48,49,50,51,52,53] [] (fun ρ=>[.pointer (fK (gT s.ts 0).ka (0*45)),.agg (dO.row (gK (gT s.ts 0).ks 0)),pt (nb ρ 2),undef]) (fun ρ=>[(2,(nw ρ 2 (cL (kM 0 0 0 0 0 0 vz vF) 59))),(3,(bD 19 (nb ρ 2) (cL (dO.row (gK (gT s.ts 0).ks 0)) 59)))]) (cX (qF (fun _ _ _ hG=>oG.idx (k:=.i64) Tryz.underlying48 Tryz.sizeOf59 (hG.fn.1.sub _ (xAE (show 0<s.ts.length from h0))) rfl (show 0=((0:Nat):Int) from rfl) (show 0<(gT s.ts 0).ks.length from (by rw [hkl];decide))))<|cX (qF (fun _ _ _ hG=>oG.ldA (i:=0) Tryz.isAgg59 Tryz.sizeOf59 (hG.fn.1.sub _ (xAE (show 0<s.ts.length from h0))) (show 0<(gT s.ts 0).ks.length from (by rw [hkl];decide))))<|jE [[],[19]]) (fun ρ13=>?_)
 refine rS Tryz.f25 4 [0,2,3,4,5,7,9,48,49,50,51,52,53,54,55,56] [] (fun _=>[.func (.func 42) #[] #[pt (nb ρ3 5),pt (nb ρ4 0)],.agg (dO.row (gK (gT s.ts 0).ks 0)),.string (gY (gK (gT s.ts 0).ks 0).tx),.tuple #[]]) (fun _=>[(3,{ puts:=[(1,nb ρ3 5,(cL #[.string (gY (((kZ (gT s.ts 0).kd)++([40]:List UInt8))++(([]:List UInt8)++(gK (gT s.ts 0).ks 0).tx)))] 9)),(2,nb ρ4 0,(cL #[.string ⟨#[44]⟩] 9))]})]) (cR [[],[3]]<|cX (qC (fun _ _ w hG=>xBG (gK (gT s.ts 0).ks 0) (ho.gK 0 0) w ((hG.fn.1.sub _ (xAE (show 0<s.ts.length from h0))).sub _ (nU (show 0<(gT s.ts 0).ks.length from (by rw [hkl];decide)))) hG.fn.2.1))<|cX (qW [1,2] (fun _ _ w hG hK=>o8 (gK (gT s.ts 0).ks 0).tx (nb ρ3 5) (nb ρ4 0) ((kZ (gT s.ts 0).kd)++([40]:List UInt8)) ([]:List UInt8) (by have q1:=jY (gT s.ts 0).kd;have q2:=hq _ (xAE h0) _ (nU (show 0<(gT s.ts 0).ks.length by rw [hkl];decide));simp only [List.length_append,List.length_cons,List.length_nil] at *;omega) (by decide) (by have q1:=jY (gT s.ts 0).kd;have q2:=hq _ (xAE h0) _ (nU (show 0<(gT s.ts 0).ks.length by rw [hkl];decide));simp only [List.length_append,List.length_cons,List.length_nil] at *;omega) w hK (hG.pK [1,2] (fun _ _=>trivial))))<|cN) (fun _=>?_)
 refine aJ (aA (jL Tryz.f25 2 [0,2,3,4,5,7,9,48,49,50,51,52,53,54,55,56,58] [] [vi 1,vi 1] [[],[]] (dV ?_)))
 refine dI ?_
 refine sS Tryz.f25 1 [0,2,3,4,5,7,9,48,49,50,51,52,53,54,55,56,58] [] (fun _=>[vF]) (fun _=>[]) (jQ (fun ρ=>(decide (1<(((gT s.ts 0).ks.length:Nat):Int)))) false (fun _=>(show (decide (1<(((gT s.ts 0).ks.length:Nat):Int)))=false by as_aux_lemma=>rw [hkl];rfl))<|cN) (fun _=>?_)
 refine lK [(0,(.slice (jA s.ta s.tc 1 36) s.ts.tail.length (s.tc-1))),(2,(.string ⟨#[]⟩)),(3,vz),(4,(pt (nb ρ2 5))),(5,(pt (nb ρ3 5))),(7,(.func (.func 42) #[] #[pt (nb ρ3 5),pt (nb ρ4 0)])),(9,(pt (nb ρ13 2))),(48,(.slice (gT s.ts 0).ka (gT s.ts 0).ks.length (gT s.ts 0).kc)),(49,(vn (gT s.ts 0).ks.length)),(50,(vi 1)),(51,vF),(52,(.pointer (fK (gT s.ts 0).ka (0*45)))),(53,(.agg (dO.row (gK (gT s.ts 0).ks 0)))),(54,(.func (.func 42) #[] #[pt (nb ρ3 5),pt (nb ρ4 0)])),(55,(.agg (dO.row (gK (gT s.ts 0).ks 0)))),(56,(.string (gY (gK (gT s.ts 0).ks 0).tx))),(58,(vi 1))] [(nb ρ2 5,(cL (bW.row (gT s.ts 0)) 50)),(nb ρ3 5,(cL #[.string (gY (((kZ (gT s.ts 0).kd)++([40]:List UInt8))++(([]:List UInt8)++(gK (gT s.ts 0).ks 0).tx)))] 9)),(nb ρ4 0,(cL #[.string ⟨#[44]⟩] 9)),(nb ρ13 2,(cL (dO.row (gK (gT s.ts 0).ks 0)) 59))] ?_
 refine aB ?_
 refine oN ?_
 refine bF (aN (aN (aT (aA (aB ?_)))))
 refine sS Tryz.f25 4 [0,2,3,5,7,61,62] [0,1,1,0] (fun _=>[pt (nb ρ2 5),vi (gT s.ts 0).kd,vi (nO (gT s.ts 0).kd),vi 0]) (fun _=>[]) (cR [[],[0]]<|cC (fun _ w=>oU (gT s.ts 0).kd w)<|jE [[]]) (fun _=>?_)
 refine aI ?_
 refine kX 1 ?_
 refine dI ?_
 refine sS Tryz.f25 1 [0,2,3,5,7,61,62,63] [] (fun _=>[vF]) (fun _=>[]) (jQ (fun ρ=>(decide (0<(nO (gT s.ts 0).kd)))) false (fun _=>(show (decide (0<(nO (gT s.ts 0).kd)))=false by rw [show nO (gT s.ts 0).kd=0 from by rw [show (gT s.ts 0).kd=1 from hk];rfl];rfl))<|cN) (fun _=>?_)
 refine aB ?_
 refine oN ?_
 refine bF (aN (aN (aT (aA ?_))))
 refine sS Tryz.f25 5 [2,3] [0,0] (fun _=>let qa:Value:=.slice (jA s.ta s.tc 1 36) s.ts.tail.length (s.tc-1);[.string (gY (((kZ (gT s.ts 0).kd)++([40]:List UInt8))++(([]:List UInt8)++(gK (gT s.ts 0).ks 0).tx))),.string (gY ((((kZ (gT s.ts 0).kd)++([40]:List UInt8))++(([]:List UInt8)++(gK (gT s.ts 0).ks 0).tx))++([41]:List UInt8))),qa,.string (gY ((((kZ (gT s.ts 0).kd)++([40]:List UInt8))++(([]:List UInt8)++(gK (gT s.ts 0).ks 0).tx))++([41]:List UInt8))),qa]) (fun _=>[]) (cR [[0]]<|cB (a:=fun ρ=>(.string (gY (((kZ (gT s.ts 0).kd)++([40]:List UInt8))++(([]:List UInt8)++(gK (gT s.ts 0).ks 0).tx))))) (b:=fun ρ=>(.string (gY ([41]:List UInt8)))) (v:=fun ρ=>(.string (gY ((((kZ (gT s.ts 0).kd)++([40]:List UInt8))++(([]:List UInt8)++(gK (gT s.ts 0).ks 0).tx))++([41]:List UInt8))))) .add 9 (fun _ w=>jP (((kZ (gT s.ts 0).kd)++([40]:List UInt8))++(([]:List UInt8)++(gK (gT s.ts 0).ks 0).tx)) ([41]:List UInt8) (by have q1:=jY (gT s.ts 0).kd;have q2:=hq _ (xAE h0) _ (nU (show 0<(gT s.ts 0).ks.length by rw [hkl];decide));simp only [List.length_append,List.length_cons,List.length_nil] at *;omega) w)<|jE [[],[],[]]) (fun _=>?_)
 refine aF ?_
 exact mR (v:=(.tuple #[.string (gY ((((kZ (gT s.ts 0).kd)++([40]:List UInt8))++(([]:List UInt8)++(gK (gT s.ts 0).ks 0).tx))++([41]:List UInt8))),.slice (jA s.ta s.tc 1 36) s.ts.tail.length (s.tc-1)])) (fun _ hS=>⟨congrArg (fun z=>Ending.returned (.tuple #[.string (gY z),.slice s.go.ta s.go.ts.length s.go.tc])) (kb1 hk),hS.bel⟩)
theorem body2_any (s:Tq) (hk:(gT s.ts 0).kd=2) (h0:0<s.ts.length) (hfd:(gT s.ts 0).fw=true) (ho:mP s.ts) (hq:TxS s.ts) (w0:World) (hf0:bM w0 s.ta s.tc s.ts) (hf1:xB w0):Calls Tryz.prog 25 #[.slice s.ta s.ts.length s.tc] w0 (jR (.tuple #[.string (gY (nY (gT s.ts 0).m (gT s.ts 0).ks)),.slice s.go.ta s.go.ts.length s.go.tc]) w0):=by
 refine Calls.of_ok (n:=76) (F:=(fun w=>bM w s.ta s.tc s.ts∧xB w∧True)) Tryz.func25 rfl rfl rfl (by simp) (hf0.pers0.and (hf1.pers0.and cO)) ?_
 have hkl:(1≤(gT s.ts 0).ks.length∧(gT s.ts 0).ks.length≤20000)∧0≤(gT s.ts 0).m∧(gT s.ts 0).m<4294967296:=(by have:=fw_iff hfd;unfold FwP at this;omega)
 have hlen:s.ts.length≤1000000:=hf0.max
 refine jJ Tryz.f25 2 [0,2,3] [.string ⟨#[]⟩,vz] ?_
 refine sDf Tryz.f25 [0,1,3,0,8,0,39,127] 8 [0,2,3,4] [] (fun ρ=>let qa:Value:=.slice (jA s.ta s.tc 1 36) s.ts.tail.length (s.tc-1);let qb:Value:=.slice s.ta s.ts.length s.tc;[qb,.pointer (fK s.ta (0*36)),.agg (bW.row (gT s.ts 0)),qb,qa,pt (nb ρ 5),undef,qa]) (fun ρ=>[(5,(nw ρ 5 (cL (iC 0 0 0 0 vz) 50))),(6,(bD 40 (nb ρ 5) (cL (bW.row (gT s.ts 0)) 50)))]) (fun _=>[(4,fun w=>bM w (jA s.ta s.tc 1 36) (s.tc-1) s.ts.tail)]) (fun _=>(fun w=>bM w s.ta s.tc s.ts∧xB w∧bM w (jA s.ta s.tc 1 36) (s.tc-1) s.ts.tail∧True)) (fun _=>True) (fun _ _ hF hf=>⟨⟨hF.1,hF.2.1,hf 4,trivial⟩,trivial⟩) (cR [[]]<|cX (qF (fun _ _ _ hG=>bM.idx (k:=.i64) Tryz.underlying24 Tryz.sizeOf50 hG.fn.1 rfl (show 0=((0:Nat):Int) from rfl) (show 0<s.ts.length from h0)))<|cX (qF (fun _ _ _ hG=>bM.ldA (i:=0) Tryz.isAgg50 Tryz.sizeOf50 hG.fn.1 (show 0<s.ts.length from h0)))<|cR [[]]<|cX (jF (fun _=>Instr.sliceAt 24 (.slice s.ta s.ts.length s.tc) (some (vi 1)) none none) (fun _=>(.slice (jA s.ta s.tc 1 36) s.ts.tail.length (s.tc-1))) (fun _ _ _ hG=>fP (k:=1) Tryz.underlying24 Tryz.sizeOf50 rfl (jI (rfl)) h0 hG.fn.1.le (by rw [List.length_tail])) (fun _ _ w hG=>hG.facts0.mono (fun _ hF=>hF.1.tail h0)))<|jE [[],[40],[]]) (fun ρ2 _=>?_)
 refine sD Tryz.f25 [0,0,2,7,15,0,63] 7 [0,2,3,4,5] [] (fun ρ=>[.agg #[.string ⟨#[]⟩,.string ⟨#[107,101,121]⟩,.string ⟨#[109,117,108,116,105]⟩,.string ⟨#[97,102,116,101,114]⟩,.string ⟨#[111,108,100,101,114]⟩,.string ⟨#[104,97,115,104]⟩,.string ⟨#[101,105,116,104,101,114]⟩],pt (nb ρ2 5),vi (gT s.ts 0).kd,.string (gY (kZ (gT s.ts 0).kd)),.string (gY ((kZ (gT s.ts 0).kd)++([40]:List UInt8))),pt (nb ρ 5),undef]) (fun ρ=>[(5,(nw ρ 5 (cL #[.string ⟨#[]⟩] 9))),(6,(bD 41 (nb ρ 5) (cL #[.string (gY ((kZ (gT s.ts 0).kd)++([40]:List UInt8)))] 9)))]) (cC (fun _ w=>wO w)<|cR [[],[0]]<|cX (jS (fun _=>Instr.index 78 (.agg #[.string ⟨#[]⟩,.string ⟨#[107,101,121]⟩,.string ⟨#[109,117,108,116,105]⟩,.string ⟨#[97,102,116,101,114]⟩,.string ⟨#[111,108,100,101,114]⟩,.string ⟨#[104,97,115,104]⟩,.string ⟨#[101,105,116,104,101,114]⟩]) (vi (gT s.ts 0).kd)) (fun _=>(.string (gY (kZ (gT s.ts 0).kd)))) (fun _ w=>nm_at _ (by omega) w))<|cB (a:=fun ρ=>(.string (gY (kZ (gT s.ts 0).kd)))) (b:=fun ρ=>(.string (gY ([40]:List UInt8)))) (v:=fun ρ=>(.string (gY ((kZ (gT s.ts 0).kd)++([40]:List UInt8))))) .add 9 (fun _ w=>jP (kZ (gT s.ts 0).kd) ([40]:List UInt8) (by have q1:=jY (gT s.ts 0).kd;have q2:=kP (n:=(gT s.ts 0).m.toNat) (by omega);have q5:=hkl;simp only [List.length_cons,List.length_nil] at *;omega) w)<|jE [[],[41]]) (fun ρ3=>?_)
 refine sS Tryz.f25 2 [0,2,3,4,5,6] [] (fun ρ=>[pt (nb ρ 0),undef]) (fun ρ=>[(0,(nw ρ 0 (cL #[.string ⟨#[]⟩] 9))),(1,(bD 2 (nb ρ 0) (cL #[.string ⟨#[]⟩] 9)))]) (jE [[],[2]]) (fun ρ4=>?_)
 refine jJ Tryz.f25 2 [0,2,3,4,5,7] [.func (.func 42) #[] #[pt (nb ρ3 5),pt (nb ρ4 0)],.func (.func 42) #[] #[pt (nb ρ3 5),pt (nb ρ4 0)]] (aB (jM Tryz.f25 2 [0,2,3,4,5,7,23] [] [pt (nb ρ2 5),vi (gT s.ts 0).kd] [[],[0]] (aI ?_)))
 refine sS Tryz.f25 2 [0,2,3,4,5,7,23,24] [] (fun _=>[vT,vT]) (fun _=>[]) (jQ (fun ρ=>((gT s.ts 0).kd==2)) true (fun _=>(jK hk rfl))<|jE [[]]) (fun _=>?_)
 refine lK [(0,(.slice (jA s.ta s.tc 1 36) s.ts.tail.length (s.tc-1))),(2,(.string ⟨#[]⟩)),(3,vz),(4,(pt (nb ρ2 5))),(5,(pt (nb ρ3 5))),(7,(.func (.func 42) #[] #[pt (nb ρ3 5),pt (nb ρ4 0)])),(23,(vi (gT s.ts 0).kd)),(24,vT)] [(nb ρ2 5,(cL (bW.row (gT s.ts 0)) 50)),(nb ρ3 5,(cL #[.string (gY ((kZ (gT s.ts 0).kd)++([40]:List UInt8)))] 9)),(nb ρ4 0,(cL #[.string ⟨#[]⟩] 9))] ?_
 refine oY ?_
 refine rS Tryz.f25 5 [0,2,3,4,5,7] [] (fun _=>[.func (.func 42) #[] #[pt (nb ρ3 5),pt (nb ρ4 0)],jp (nb ρ2 5) 1,vi (gT s.ts 0).m,.string (gY (dS (gT s.ts 0).m.toNat)),.tuple #[]]) (fun _=>[(4,{ puts:=[(1,nb ρ3 5,(cL #[.string (gY (((kZ (gT s.ts 0).kd)++([40]:List UInt8))++(([]:List UInt8)++(dS (gT s.ts 0).m.toNat))))] 9)),(2,nb ρ4 0,(cL #[.string ⟨#[44]⟩] 9))]})]) (cR [[],[],[0]]<|cX (qC (fun _ _ w hG=>itoa_any (gT s.ts 0).m (by omega) w hG.fn.2.1))<|cX (qW [1,2] (fun _ _ w hG hK=>o8 (dS (gT s.ts 0).m.toNat) (nb ρ3 5) (nb ρ4 0) ((kZ (gT s.ts 0).kd)++([40]:List UInt8)) ([]:List UInt8) (by have q1:=jY (gT s.ts 0).kd;have q2:=kP (n:=(gT s.ts 0).m.toNat) (by omega);have q5:=hkl;simp only [List.length_append,List.length_cons,List.length_nil] at *;omega) (by decide) (by have q1:=jY (gT s.ts 0).kd;have q2:=kP (n:=(gT s.ts 0).m.toNat) (by omega);have q5:=hkl;simp only [List.length_append,List.length_cons,List.length_nil] at *;omega) w hK (hG.pK [1,2] (fun _ _=>trivial))))<|cN) (fun _=>?_)
 refine aJ (aA (aB (jM Tryz.f25 4 [0,2,3,4,5,7,48,49,50] [] [jp (nb ρ2 5) 35,.slice (gT s.ts 0).ka (gT s.ts 0).ks.length (gT s.ts 0).kc,vn (gT s.ts 0).ks.length,vi 0] [[],[0],[],[]] (aI ?_))))
 refine oL (σ:=Nat × (List UInt8)) (fun ⟨i,_⟩=>[(0,(.slice (jA s.ta s.tc 1 36) s.ts.tail.length (s.tc-1))),(2,(.string ⟨#[]⟩)),(3,vz),(4,(pt (nb ρ2 5))),(5,(pt (nb ρ3 5))),(7,(.func (.func 42) #[] #[pt (nb ρ3 5),pt (nb ρ4 0)])),(48,(.slice (gT s.ts 0).ka (gT s.ts 0).ks.length (gT s.ts 0).kc)),(49,(vn (gT s.ts 0).ks.length)),(50,(vn i))]) (fun ⟨_,S⟩=>[(nb ρ2 5,(cL (bW.row (gT s.ts 0)) 50)),(nb ρ3 5,(cL #[.string (gY S)] 9)),(nb ρ4 0,(cL #[.string ⟨#[44]⟩] 9))]) (fun ⟨i,_⟩=>(gT s.ts 0).ks.length-i)
   (fun ⟨i,S⟩=>(i≤(gT s.ts 0).ks.length)∧(S=((kZ (gT s.ts 0).kd++[40])++([]++dS (gT s.ts 0).m.toNat))++xM ((gT s.ts 0).ks.take i))) (0,((kZ (gT s.ts 0).kd++[40])++([]++dS (gT s.ts 0).m.toNat))) (⟨Nat.zero_le _,(List.append_nil _).symm⟩) [] ?_
 rintro ⟨i,S⟩ ⟨hi,hZ⟩
 change Ok Tryz.prog _ _ 76 [(0,(.slice (jA s.ta s.tc 1 36) s.ts.tail.length (s.tc-1))),(2,(.string ⟨#[]⟩)),(3,vz),(4,(pt (nb ρ2 5))),(5,(pt (nb ρ3 5))),(7,(.func (.func 42) #[] #[pt (nb ρ3 5),pt (nb ρ4 0)])),(48,(.slice (gT s.ts 0).ka (gT s.ts 0).ks.length (gT s.ts 0).kc)),(49,(vn (gT s.ts 0).ks.length)),(50,(vn i))] _ [(nb ρ2 5,(cL (bW.row (gT s.ts 0)) 50)),(nb ρ3 5,(cL #[.string (gY S)] 9)),(nb ρ4 0,(cL #[.string ⟨#[44]⟩] 9))] (fun w=>bM w s.ta s.tc s.ts∧xB w∧bM w (jA s.ta s.tc 1 36) (s.tc-1) s.ts.tail∧True)
 refine jJ Tryz.f25 1 [0,2,3,4,5,7,48,49,50,51] [.bool (decide (((i:Nat):Int)<(((gT s.ts 0).ks.length:Nat):Int)))] (aB ?_)
 refine oC (decide (((i:Nat):Int)<(((gT s.ts 0).ks.length:Nat):Int))) (fun hb1=>?_) (fun hb1=>?_)
 ·
  rw [hb1]
  have:=yT hb1
  refine aG (aA (aB (aI ?_)))
  refine sS Tryz.f25 4 [0,2,3,4,5,7,9,48,49,50] [] (fun ρ=>[.pointer (fK (gT s.ts 0).ka (i*45)),.agg (dO.row (gK (gT s.ts 0).ks i)),pt (nb ρ 2),undef]) (fun ρ=>[(2,(nw ρ 2 (cL (kM 0 0 0 0 0 0 vz vF) 59))),(3,(bD 19 (nb ρ 2) (cL (dO.row (gK (gT s.ts 0).ks i)) 59)))]) (cX (qF (fun _ _ _ hG=>oG.idx (k:=.i64) Tryz.underlying48 Tryz.sizeOf59 (hG.fn.1.sub _ (xAE (show 0<s.ts.length from h0))) rfl (show ((i:Nat):Int)=((i:Nat):Int) from rfl) (show i<(gT s.ts 0).ks.length from (by omega))))<|cX (qF (fun _ _ _ hG=>oG.ldA (i:=i) Tryz.isAgg59 Tryz.sizeOf59 (hG.fn.1.sub _ (xAE (show 0<s.ts.length from h0))) (show i<(gT s.ts 0).ks.length from (by omega))))<|jE [[],[19]]) (fun _=>?_)
  refine rS Tryz.f25 4 [0,2,3,4,5,7,48,49,50] [1,1,1,0] (fun _=>[.func (.func 42) #[] #[pt (nb ρ3 5),pt (nb ρ4 0)],.agg (dO.row (gK (gT s.ts 0).ks i)),.string (gY (gK (gT s.ts 0).ks i).tx),.tuple #[]]) (fun _=>[(3,{ puts:=[(1,nb ρ3 5,(cL #[.string (gY (S++(([44]:List UInt8)++(gK (gT s.ts 0).ks i).tx)))] 9)),(2,nb ρ4 0,(cL #[.string ⟨#[44]⟩] 9))]})]) (cR [[],[3]]<|cX (qC (fun _ _ w hG=>xBG (gK (gT s.ts 0).ks i) (ho.gK 0 i) w ((hG.fn.1.sub _ (xAE (show 0<s.ts.length from h0))).sub _ (nU (show i<(gT s.ts 0).ks.length from (by omega)))) hG.fn.2.1))<|cX (qW [1,2] (fun _ _ w hG hK=>o8 (gK (gT s.ts 0).ks i).tx (nb ρ3 5) (nb ρ4 0) S ([44]:List UInt8) (by have q1:=jY (gT s.ts 0).kd;have q2:=kP (n:=(gT s.ts 0).m.toNat) (by omega);have q5:=hkl;have q3:=kb_len hZ (hq _ (xAE h0));have q7:=kb_ge hZ;have q6:=hq _ (xAE h0) _ (nU (show i<(gT s.ts 0).ks.length from (by omega)));simp only [List.length_append,List.length_cons,List.length_nil] at *;omega) (by decide) (by have q1:=jY (gT s.ts 0).kd;have q2:=kP (n:=(gT s.ts 0).m.toNat) (by omega);have q5:=hkl;have q3:=kb_len hZ (hq _ (xAE h0));have q7:=kb_ge hZ;have q6:=hq _ (xAE h0) _ (nU (show i<(gT s.ts 0).ks.length from (by omega)));simp only [List.length_append,List.length_cons,List.length_nil] at *;omega) w hK (hG.pK [1,2] (fun _ _=>trivial))))<|cN) (fun _=>?_)
  refine aJ (aA ?_)
  refine rS Tryz.f25 2 [0,2,3,4,5,7,48,49,50] [] (fun _=>[vn (i+1),vn (i+1)]) (fun _=>[]) (jW (fun ρ=>(((i:Nat):Int)+1)) (fun _=>(i+1)) (fun _=>(aW i 1 (by omega)))<|jE [[]]) (fun _=>?_)
  exact mN (i+1,S++(([44]:List UInt8)++(gK (gT s.ts 0).ks i).tx)) (by show (gT s.ts 0).ks.length-(i+1)<(gT s.ts 0).ks.length-i;omega) (⟨(by omega),kb_n (by omega) hZ⟩) []
 rw [hb1]
 refine bF (aN (aN (aT (aA (aB ?_)))))
 refine sS Tryz.f25 4 [0,2,3,5,7,61,62] [0,1,1] (fun _=>[pt (nb ρ2 5),vi (gT s.ts 0).kd,vi (nO (gT s.ts 0).kd),vi 0]) (fun _=>[]) (cR [[],[0]]<|cC (fun _ w=>oU (gT s.ts 0).kd w)<|jE [[]]) (fun _=>?_)
 refine aI ?_
 refine kX 1 ?_
 refine dI ?_
 refine sS Tryz.f25 1 [0,2,3,5,7,61,62,63] [] (fun _=>[vF]) (fun _=>[]) (jQ (fun ρ=>(decide (0<(nO (gT s.ts 0).kd)))) false (fun _=>(show (decide (0<(nO (gT s.ts 0).kd)))=false by rw [show nO (gT s.ts 0).kd=0 from by rw [show (gT s.ts 0).kd=2 from hk];rfl];rfl))<|cN) (fun _=>?_)
 refine aB ?_
 refine oN ?_
 refine bF (aN (aN (aT (aA ?_))))
 refine sS Tryz.f25 5 [2,3] [0,0] (fun _=>let qa:Value:=.slice (jA s.ta s.tc 1 36) s.ts.tail.length (s.tc-1);[.string (gY S),.string (gY (S++([41]:List UInt8))),qa,.string (gY (S++([41]:List UInt8))),qa]) (fun _=>[]) (cR [[0]]<|cB (a:=fun ρ=>(.string (gY S))) (b:=fun ρ=>(.string (gY ([41]:List UInt8)))) (v:=fun ρ=>(.string (gY (S++([41]:List UInt8))))) .add 9 (fun _ w=>jP S ([41]:List UInt8) (by have q1:=jY (gT s.ts 0).kd;have q2:=kP (n:=(gT s.ts 0).m.toNat) (by omega);have q5:=hkl;have q3:=kb_len hZ (hq _ (xAE h0));have q7:=kb_ge hZ;simp only [List.length_append,List.length_cons,List.length_nil] at *;omega) w)<|jE [[],[],[]]) (fun _=>?_)
 refine aF ?_
 exact mR (v:=(.tuple #[.string (gY (S++([41]:List UInt8))),.slice (jA s.ta s.tc 1 36) s.ts.tail.length (s.tc-1)])) (fun _ hS=>⟨congrArg (fun z=>Ending.returned (.tuple #[.string (gY z),.slice s.go.ta s.go.ts.length s.go.tc])) (kb2 hk (by have:=yF hb1;omega) hZ),hS.bel⟩)
theorem body3_any (s:Tq) (x:List UInt8) (s1:Tq) (hk:(gT s.ts 0).kd=3∨(gT s.ts 0).kd=4∨(gT s.ts 0).kd=5) (h0:0<s.ts.length) (hfd:(gT s.ts 0).fw=true) (ho:mP s.ts) (_hq:TxS s.ts) (hx:x.length≤5200000000000) (ih:BdC s.go x s1) (w0:World) (hf0:bM w0 s.ta s.tc s.ts) (hf1:xB w0):Calls Tryz.prog 25 #[.slice s.ta s.ts.length s.tc] w0 (jR (.tuple #[.string (gY (slT (gT s.ts 0).kd (gT s.ts 0).nu (gT s.ts 0).h x)),.slice s1.ta s1.ts.length s1.tc]) w0):=by
 refine Calls.of_ok (n:=76) (F:=(fun w=>bM w s.ta s.tc s.ts∧xB w∧True)) Tryz.func25 rfl rfl rfl (by simp) (hf0.pers0.and (hf1.pers0.and cO)) ?_
 have hkl:(gT s.ts 0).ks.length=0:=(by have:=fw_iff hfd;unfold FwP at this;omega)
 have hlen:s.ts.length≤1000000:=hf0.max
 refine jJ Tryz.f25 2 [0,2,3] [.string ⟨#[]⟩,vz] ?_
 refine sDf Tryz.f25 [0,1,3,0,8,0,39,127] 8 [0,2,3,4] [] (fun ρ=>let qa:Value:=.slice (jA s.ta s.tc 1 36) s.ts.tail.length (s.tc-1);let qb:Value:=.slice s.ta s.ts.length s.tc;[qb,.pointer (fK s.ta (0*36)),.agg (bW.row (gT s.ts 0)),qb,qa,pt (nb ρ 5),undef,qa]) (fun ρ=>[(5,(nw ρ 5 (cL (iC 0 0 0 0 vz) 50))),(6,(bD 40 (nb ρ 5) (cL (bW.row (gT s.ts 0)) 50)))]) (fun _=>[(4,fun w=>bM w (jA s.ta s.tc 1 36) (s.tc-1) s.ts.tail)]) (fun _=>(fun w=>bM w s.ta s.tc s.ts∧xB w∧bM w (jA s.ta s.tc 1 36) (s.tc-1) s.ts.tail∧True)) (fun _=>True) (fun _ _ hF hf=>⟨⟨hF.1,hF.2.1,hf 4,trivial⟩,trivial⟩) (cR [[]]<|cX (qF (fun _ _ _ hG=>bM.idx (k:=.i64) Tryz.underlying24 Tryz.sizeOf50 hG.fn.1 rfl (show 0=((0:Nat):Int) from rfl) (show 0<s.ts.length from h0)))<|cX (qF (fun _ _ _ hG=>bM.ldA (i:=0) Tryz.isAgg50 Tryz.sizeOf50 hG.fn.1 (show 0<s.ts.length from h0)))<|cR [[]]<|cX (jF (fun _=>Instr.sliceAt 24 (.slice s.ta s.ts.length s.tc) (some (vi 1)) none none) (fun _=>(.slice (jA s.ta s.tc 1 36) s.ts.tail.length (s.tc-1))) (fun _ _ _ hG=>fP (k:=1) Tryz.underlying24 Tryz.sizeOf50 rfl (jI (rfl)) h0 hG.fn.1.le (by rw [List.length_tail])) (fun _ _ w hG=>hG.facts0.mono (fun _ hF=>hF.1.tail h0)))<|jE [[],[40],[]]) (fun ρ2 _=>?_)
 refine sD Tryz.f25 [0,0,2,7,15,0,63] 7 [0,2,3,4,5] [] (fun ρ=>[.agg #[.string ⟨#[]⟩,.string ⟨#[107,101,121]⟩,.string ⟨#[109,117,108,116,105]⟩,.string ⟨#[97,102,116,101,114]⟩,.string ⟨#[111,108,100,101,114]⟩,.string ⟨#[104,97,115,104]⟩,.string ⟨#[101,105,116,104,101,114]⟩],pt (nb ρ2 5),vi (gT s.ts 0).kd,.string (gY (kZ (gT s.ts 0).kd)),.string (gY ((kZ (gT s.ts 0).kd)++([40]:List UInt8))),pt (nb ρ 5),undef]) (fun ρ=>[(5,(nw ρ 5 (cL #[.string ⟨#[]⟩] 9))),(6,(bD 41 (nb ρ 5) (cL #[.string (gY ((kZ (gT s.ts 0).kd)++([40]:List UInt8)))] 9)))]) (cC (fun _ w=>wO w)<|cR [[],[0]]<|cX (jS (fun _=>Instr.index 78 (.agg #[.string ⟨#[]⟩,.string ⟨#[107,101,121]⟩,.string ⟨#[109,117,108,116,105]⟩,.string ⟨#[97,102,116,101,114]⟩,.string ⟨#[111,108,100,101,114]⟩,.string ⟨#[104,97,115,104]⟩,.string ⟨#[101,105,116,104,101,114]⟩]) (vi (gT s.ts 0).kd)) (fun _=>(.string (gY (kZ (gT s.ts 0).kd)))) (fun _ w=>nm_at _ (by omega) w))<|cB (a:=fun ρ=>(.string (gY (kZ (gT s.ts 0).kd)))) (b:=fun ρ=>(.string (gY ([40]:List UInt8)))) (v:=fun ρ=>(.string (gY ((kZ (gT s.ts 0).kd)++([40]:List UInt8))))) .add 9 (fun _ w=>jP (kZ (gT s.ts 0).kd) ([40]:List UInt8) (by have q1:=jY (gT s.ts 0).kd;have q2:=kP (n:=(gT s.ts 0).nu) (by have:=(ho.gT 0).nu;omega);have q3:=hx;simp only [List.length_cons,List.length_nil] at *;omega) w)<|jE [[],[41]]) (fun ρ3=>?_)
 refine sS Tryz.f25 2 [0,2,3,4,5,6] [] (fun ρ=>[pt (nb ρ 0),undef]) (fun ρ=>[(0,(nw ρ 0 (cL #[.string ⟨#[]⟩] 9))),(1,(bD 2 (nb ρ 0) (cL #[.string ⟨#[]⟩] 9)))]) (jE [[],[2]]) (fun ρ4=>?_)
 refine jJ Tryz.f25 2 [0,2,3,4,5,7] [.func (.func 42) #[] #[pt (nb ρ3 5),pt (nb ρ4 0)],.func (.func 42) #[] #[pt (nb ρ3 5),pt (nb ρ4 0)]] (aB (jM Tryz.f25 2 [0,2,3,4,5,7,23] [] [pt (nb ρ2 5),vi (gT s.ts 0).kd] [[],[0]] (aI ?_)))
 refine sS Tryz.f25 2 [0,2,3,4,5,7,23,24] [] (fun _=>[vF,vF]) (fun _=>[]) (jQ (fun ρ=>((gT s.ts 0).kd==2)) false (fun _=>(beq_f (show (gT s.ts 0).kd≠2 by have e:(gT s.ts 0).kd=(gT s.ts 0).kd:=rfl;omega)))<|jE [[]]) (fun _=>?_)
 refine lK [(0,(.slice (jA s.ta s.tc 1 36) s.ts.tail.length (s.tc-1))),(2,(.string ⟨#[]⟩)),(3,vz),(4,(pt (nb ρ2 5))),(5,(pt (nb ρ3 5))),(7,(.func (.func 42) #[] #[pt (nb ρ3 5),pt (nb ρ4 0)])),(23,(vi (gT s.ts 0).kd)),(24,vF)] [(nb ρ2 5,(cL (bW.row (gT s.ts 0)) 50)),(nb ρ3 5,(cL #[.string (gY ((kZ (gT s.ts 0).kd)++([40]:List UInt8)))] 9)),(nb ρ4 0,(cL #[.string ⟨#[]⟩] 9))] ?_
 refine oN ?_
 refine aB (jJ Tryz.f25 2 [0,2,3,4,5,7,23,31] (let qa:Value:=.bool ((gT s.ts 0).kd==3);[qa,qa]) ?_)
 refine oC ((gT s.ts 0).kd==3) (fun hb1=>?_) (fun hb1=>?_)
 ·
  rw [hb1]
  refine aG (aA ?_)
  refine oY ?_
  refine rS Tryz.f25 6 [0,2,3,4,5,7] [] (fun _=>[.func (.func 42) #[] #[pt (nb ρ3 5),pt (nb ρ4 0)],jp (nb ρ2 5) 2,vu ((gT s.ts 0).nu),vx ((gT s.ts 0).nu),.string (gY (dS (gT s.ts 0).nu)),.tuple #[]]) (fun _=>[(5,{ puts:=[(1,nb ρ3 5,(cL #[.string (gY (((kZ (gT s.ts 0).kd)++([40]:List UInt8))++(([]:List UInt8)++(dS (gT s.ts 0).nu))))] 9)),(2,nb ρ4 0,(cL #[.string ⟨#[44]⟩] 9))]})]) (cR [[],[],[0]]<|cA (fun _=>(vx ((gT s.ts 0).nu))) (fun _=>congrArg (Value.int .u64) (txU (ho.gT 0).nu))<|cX (qC (fun _ _ w hG=>xBI (gT s.ts 0).nu (by have:=(ho.gT 0).nu;omega) w hG.fn.2.1))<|cX (qW [1,2] (fun _ _ w hG hK=>o8 (dS (gT s.ts 0).nu) (nb ρ3 5) (nb ρ4 0) ((kZ (gT s.ts 0).kd)++([40]:List UInt8)) ([]:List UInt8) (by have q1:=jY (gT s.ts 0).kd;have q2:=kP (n:=(gT s.ts 0).nu) (by have:=(ho.gT 0).nu;omega);have q3:=hx;simp only [List.length_append,List.length_cons,List.length_nil] at *;omega) (by decide) (by have q1:=jY (gT s.ts 0).kd;have q2:=kP (n:=(gT s.ts 0).nu) (by have:=(ho.gT 0).nu;omega);have q3:=hx;simp only [List.length_append,List.length_cons,List.length_nil] at *;omega) w hK (hG.pK [1,2] (fun _ _=>trivial))))<|cN) (fun _=>?_)
  refine aJ (aA (aB (jM Tryz.f25 4 [0,2,3,4,5,7,48,49,50] [] [jp (nb ρ2 5) 35,.slice (gT s.ts 0).ka (gT s.ts 0).ks.length (gT s.ts 0).kc,vn (gT s.ts 0).ks.length,vi 0] [[],[0],[],[]] (aI ?_))))
  refine kX 1 ?_
  refine dI ?_
  refine sS Tryz.f25 1 [0,2,3,4,5,7,48,49,50,51] [] (fun _=>[vF]) (fun _=>[]) (jQ (fun ρ=>(decide (0<(((gT s.ts 0).ks.length:Nat):Int)))) false (fun _=>(show (decide (0<(((gT s.ts 0).ks.length:Nat):Int)))=false by as_aux_lemma=>rw [hkl];rfl))<|cN) (fun _=>?_)
  refine aB ?_
  refine oN ?_
  refine bF (aN (aN (aT (aA (aB ?_)))))
  refine sS Tryz.f25 4 [0,2,3,5,7,61,62] [0,1,1] (fun _=>[pt (nb ρ2 5),vi (gT s.ts 0).kd,vi (nO (gT s.ts 0).kd),vi 0]) (fun _=>[]) (cR [[],[0]]<|cC (fun _ w=>oU (gT s.ts 0).kd w)<|jE [[]]) (fun _=>?_)
  refine aI ?_
  refine kX 2 ?_
  refine dI ?_
  refine sS Tryz.f25 1 [0,2,3,5,7,61,62,63] [] (fun _=>[vT]) (fun _=>[]) (jQ (fun ρ=>(decide (0<(nO (gT s.ts 0).kd)))) true (fun _=>(show (decide (0<(nO (gT s.ts 0).kd)))=true by rw [show nO (gT s.ts 0).kd=1 from (kd_3 hk).symm];rfl))<|cN) (fun _=>?_)
  refine aB ?_
  refine oY ?_
  refine aG (aA (aB (aI (jJ Tryz.f25 1 [0,2,3,5,7,10,61,62,63] [.string ⟨#[]⟩] ?_))))
  refine lK [(0,(.slice (jA s.ta s.tc 1 36) s.ts.tail.length (s.tc-1))),(2,(.string ⟨#[]⟩)),(3,vz),(5,(pt (nb ρ3 5))),(7,(.func (.func 42) #[] #[pt (nb ρ3 5),pt (nb ρ4 0)])),(10,(.string ⟨#[]⟩)),(61,(vi (nO (gT s.ts 0).kd))),(62,(vi 0)),(63,vT)] [(nb ρ3 5,(cL #[.string (gY (((kZ (gT s.ts 0).kd)++([40]:List UInt8))++(([]:List UInt8)++(dS (gT s.ts 0).nu))))] 9)),(nb ρ4 0,(cL #[.string ⟨#[44]⟩] 9))] ?_
  refine sS Tryz.f25 7 [0,2,3,5,7,10,61,62,63,64,65,66,67,68] [] (fun _=>let qa:Value:=.slice s1.ta s1.ts.length s1.tc;[.slice (jA s.ta s.tc 1 36) s.ts.tail.length (s.tc-1),.tuple #[.string (gY x),qa],.tuple #[.string (gY x),qa],.string (gY x),qa,.string (gY x),qa]) (fun _=>[]) (cR [[]]<|cX (qC (fun _ _ w hG=>ih w hG.fn.2.2.1 hG.fn.2.1))<|jE [[],[],[],[],[]]) (fun _=>?_)
  refine rS Tryz.f25 3 [0,2,3,5,7,10,61,62,63,64,65,66,67,68,69,70] [] (fun _=>[.func (.func 42) #[] #[pt (nb ρ3 5),pt (nb ρ4 0)],.string (gY x),.tuple #[]]) (fun _=>[(2,{ puts:=[(0,nb ρ3 5,(cL #[.string (gY ((((kZ (gT s.ts 0).kd)++([40]:List UInt8))++(([]:List UInt8)++(dS (gT s.ts 0).nu)))++(([44]:List UInt8)++x)))] 9)),(1,nb ρ4 0,(cL #[.string ⟨#[44]⟩] 9))]})]) (cR [[],[]]<|cX (qW [0,1] (fun _ _ w hG hK=>o8 x (nb ρ3 5) (nb ρ4 0) (((kZ (gT s.ts 0).kd)++([40]:List UInt8))++(([]:List UInt8)++(dS (gT s.ts 0).nu))) ([44]:List UInt8) (by have q1:=jY (gT s.ts 0).kd;have q2:=kP (n:=(gT s.ts 0).nu) (by have:=(ho.gT 0).nu;omega);have q3:=hx;simp only [List.length_append,List.length_cons,List.length_nil] at *;omega) (by decide) (by have q1:=jY (gT s.ts 0).kd;have q2:=kP (n:=(gT s.ts 0).nu) (by have:=(ho.gT 0).nu;omega);have q3:=hx;simp only [List.length_append,List.length_cons,List.length_nil] at *;omega) w hK (hG.pK [0,1] (fun _ _=>trivial))))<|cN) (fun _=>?_)
  refine aJ (aA (jL Tryz.f25 2 [0,2,3,5,7,10,61,62,63,64,65,66,67,68,69,70,72] [] [vi 1,vi 1] [[],[]] (dV ?_)))
  refine dI ?_
  refine sS Tryz.f25 1 [0,2,3,5,7,10,61,62,63,64,65,66,67,68,69,70,72] [] (fun _=>[vF]) (fun _=>[]) (jQ (fun ρ=>(decide (1<(nO (gT s.ts 0).kd)))) false (fun _=>(show (decide (1<(nO (gT s.ts 0).kd)))=false by rw [show nO (gT s.ts 0).kd=1 from (kd_3 hk).symm];rfl))<|cN) (fun _=>?_)
  refine aB ?_
  refine oN ?_
  refine bF (aN (aN (aT (aA ?_))))
  refine sS Tryz.f25 5 [2,3] [0,0] (fun _=>let qa:Value:=.slice s1.ta s1.ts.length s1.tc;[.string (gY ((((kZ (gT s.ts 0).kd)++([40]:List UInt8))++(([]:List UInt8)++(dS (gT s.ts 0).nu)))++(([44]:List UInt8)++x))),.string (gY (((((kZ (gT s.ts 0).kd)++([40]:List UInt8))++(([]:List UInt8)++(dS (gT s.ts 0).nu)))++(([44]:List UInt8)++x))++([41]:List UInt8))),qa,.string (gY (((((kZ (gT s.ts 0).kd)++([40]:List UInt8))++(([]:List UInt8)++(dS (gT s.ts 0).nu)))++(([44]:List UInt8)++x))++([41]:List UInt8))),qa]) (fun _=>[]) (cR [[0]]<|cB (a:=fun ρ=>(.string (gY ((((kZ (gT s.ts 0).kd)++([40]:List UInt8))++(([]:List UInt8)++(dS (gT s.ts 0).nu)))++(([44]:List UInt8)++x))))) (b:=fun ρ=>(.string (gY ([41]:List UInt8)))) (v:=fun ρ=>(.string (gY (((((kZ (gT s.ts 0).kd)++([40]:List UInt8))++(([]:List UInt8)++(dS (gT s.ts 0).nu)))++(([44]:List UInt8)++x))++([41]:List UInt8))))) .add 9 (fun _ w=>jP ((((kZ (gT s.ts 0).kd)++([40]:List UInt8))++(([]:List UInt8)++(dS (gT s.ts 0).nu)))++(([44]:List UInt8)++x)) ([41]:List UInt8) (by have q1:=jY (gT s.ts 0).kd;have q2:=kP (n:=(gT s.ts 0).nu) (by have:=(ho.gT 0).nu;omega);have q3:=hx;simp only [List.length_append,List.length_cons,List.length_nil] at *;omega) w)<|jE [[],[],[]]) (fun _=>?_)
  refine aF ?_
  exact mR (v:=(.tuple #[.string (gY (((((kZ (gT s.ts 0).kd)++([40]:List UInt8))++(([]:List UInt8)++(dS (gT s.ts 0).nu)))++(([44]:List UInt8)++x))++([41]:List UInt8))),.slice s1.ta s1.ts.length s1.tc])) (fun _ hS=>⟨congrArg (fun z=>Ending.returned (.tuple #[.string (gY z),.slice s1.ta s1.ts.length s1.tc])) (sl3 (by have:=xQ hb1;omega)),hS.bel⟩)
 rw [hb1]
 refine jL Tryz.f25 2 [0,2,3,4,5,7,23,31] [] (let qa:Value:=.bool ((gT s.ts 0).kd==4);[qa,qa]) [[],[]] (aA ?_)
 refine oC ((gT s.ts 0).kd==4) (fun hb2=>?_) (fun hb2=>?_)
 ·
  rw [hb2]
  refine rS Tryz.f25 6 [0,2,3,4,5,7] [] (fun _=>[.func (.func 42) #[] #[pt (nb ρ3 5),pt (nb ρ4 0)],jp (nb ρ2 5) 2,vu ((gT s.ts 0).nu),vx ((gT s.ts 0).nu),.string (gY (dS (gT s.ts 0).nu)),.tuple #[]]) (fun _=>[(5,{ puts:=[(1,nb ρ3 5,(cL #[.string (gY (((kZ (gT s.ts 0).kd)++([40]:List UInt8))++(([]:List UInt8)++(dS (gT s.ts 0).nu))))] 9)),(2,nb ρ4 0,(cL #[.string ⟨#[44]⟩] 9))]})]) (cR [[],[],[0]]<|cA (fun _=>(vx ((gT s.ts 0).nu))) (fun _=>congrArg (Value.int .u64) (txU (ho.gT 0).nu))<|cX (qC (fun _ _ w hG=>xBI (gT s.ts 0).nu (by have:=(ho.gT 0).nu;omega) w hG.fn.2.1))<|cX (qW [1,2] (fun _ _ w hG hK=>o8 (dS (gT s.ts 0).nu) (nb ρ3 5) (nb ρ4 0) ((kZ (gT s.ts 0).kd)++([40]:List UInt8)) ([]:List UInt8) (by have q1:=jY (gT s.ts 0).kd;have q2:=kP (n:=(gT s.ts 0).nu) (by have:=(ho.gT 0).nu;omega);have q3:=hx;simp only [List.length_append,List.length_cons,List.length_nil] at *;omega) (by decide) (by have q1:=jY (gT s.ts 0).kd;have q2:=kP (n:=(gT s.ts 0).nu) (by have:=(ho.gT 0).nu;omega);have q3:=hx;simp only [List.length_append,List.length_cons,List.length_nil] at *;omega) w hK (hG.pK [1,2] (fun _ _=>trivial))))<|cN) (fun _=>?_)
  refine aJ (aA (aB (jM Tryz.f25 4 [0,2,3,4,5,7,48,49,50] [] [jp (nb ρ2 5) 35,.slice (gT s.ts 0).ka (gT s.ts 0).ks.length (gT s.ts 0).kc,vn (gT s.ts 0).ks.length,vi 0] [[],[0],[],[]] (aI ?_))))
  refine kX 1 ?_
  refine dI ?_
  refine sS Tryz.f25 1 [0,2,3,4,5,7,48,49,50,51] [] (fun _=>[vF]) (fun _=>[]) (jQ (fun ρ=>(decide (0<(((gT s.ts 0).ks.length:Nat):Int)))) false (fun _=>(show (decide (0<(((gT s.ts 0).ks.length:Nat):Int)))=false by as_aux_lemma=>rw [hkl];rfl))<|cN) (fun _=>?_)
  refine aB ?_
  refine oN ?_
  refine bF (aN (aN (aT (aA (aB ?_)))))
  refine sS Tryz.f25 4 [0,2,3,5,7,61,62] [0,1,1] (fun _=>[pt (nb ρ2 5),vi (gT s.ts 0).kd,vi (nO (gT s.ts 0).kd),vi 0]) (fun _=>[]) (cR [[],[0]]<|cC (fun _ w=>oU (gT s.ts 0).kd w)<|jE [[]]) (fun _=>?_)
  refine aI ?_
  refine kX 2 ?_
  refine dI ?_
  refine sS Tryz.f25 1 [0,2,3,5,7,61,62,63] [] (fun _=>[vT]) (fun _=>[]) (jQ (fun ρ=>(decide (0<(nO (gT s.ts 0).kd)))) true (fun _=>(show (decide (0<(nO (gT s.ts 0).kd)))=true by rw [show nO (gT s.ts 0).kd=1 from (kd_3 hk).symm];rfl))<|cN) (fun _=>?_)
  refine lK [(0,(.slice (jA s.ta s.tc 1 36) s.ts.tail.length (s.tc-1))),(2,(.string ⟨#[]⟩)),(3,vz),(5,(pt (nb ρ3 5))),(7,(.func (.func 42) #[] #[pt (nb ρ3 5),pt (nb ρ4 0)])),(61,(vi (nO (gT s.ts 0).kd))),(62,(vi 0)),(63,vT)] [(nb ρ3 5,(cL #[.string (gY (((kZ (gT s.ts 0).kd)++([40]:List UInt8))++(([]:List UInt8)++(dS (gT s.ts 0).nu))))] 9)),(nb ρ4 0,(cL #[.string ⟨#[44]⟩] 9))] ?_
  refine aB ?_
  refine oY ?_
  refine aG (aA (aB (aI (jJ Tryz.f25 1 [0,2,3,5,7,10,61,62,63] [.string ⟨#[]⟩] ?_))))
  refine sS Tryz.f25 7 [0,2,3,5,7,10,61,62,63,64,65,66,67,68] [] (fun _=>let qa:Value:=.slice s1.ta s1.ts.length s1.tc;[.slice (jA s.ta s.tc 1 36) s.ts.tail.length (s.tc-1),.tuple #[.string (gY x),qa],.tuple #[.string (gY x),qa],.string (gY x),qa,.string (gY x),qa]) (fun _=>[]) (cR [[]]<|cX (qC (fun _ _ w hG=>ih w hG.fn.2.2.1 hG.fn.2.1))<|jE [[],[],[],[],[]]) (fun _=>?_)
  refine rS Tryz.f25 3 [0,2,3,5,7,10,61,62,63,64,65,66,67,68,69,70] [] (fun _=>[.func (.func 42) #[] #[pt (nb ρ3 5),pt (nb ρ4 0)],.string (gY x),.tuple #[]]) (fun _=>[(2,{ puts:=[(0,nb ρ3 5,(cL #[.string (gY ((((kZ (gT s.ts 0).kd)++([40]:List UInt8))++(([]:List UInt8)++(dS (gT s.ts 0).nu)))++(([44]:List UInt8)++x)))] 9)),(1,nb ρ4 0,(cL #[.string ⟨#[44]⟩] 9))]})]) (cR [[],[]]<|cX (qW [0,1] (fun _ _ w hG hK=>o8 x (nb ρ3 5) (nb ρ4 0) (((kZ (gT s.ts 0).kd)++([40]:List UInt8))++(([]:List UInt8)++(dS (gT s.ts 0).nu))) ([44]:List UInt8) (by have q1:=jY (gT s.ts 0).kd;have q2:=kP (n:=(gT s.ts 0).nu) (by have:=(ho.gT 0).nu;omega);have q3:=hx;simp only [List.length_append,List.length_cons,List.length_nil] at *;omega) (by decide) (by have q1:=jY (gT s.ts 0).kd;have q2:=kP (n:=(gT s.ts 0).nu) (by have:=(ho.gT 0).nu;omega);have q3:=hx;simp only [List.length_append,List.length_cons,List.length_nil] at *;omega) w hK (hG.pK [0,1] (fun _ _=>trivial))))<|cN) (fun _=>?_)
  refine aJ (aA (jL Tryz.f25 2 [0,2,3,5,7,10,61,62,63,64,65,66,67,68,69,70,72] [] [vi 1,vi 1] [[],[]] (dV ?_)))
  refine dI ?_
  refine sS Tryz.f25 1 [0,2,3,5,7,10,61,62,63,64,65,66,67,68,69,70,72] [] (fun _=>[vF]) (fun _=>[]) (jQ (fun ρ=>(decide (1<(nO (gT s.ts 0).kd)))) false (fun _=>(show (decide (1<(nO (gT s.ts 0).kd)))=false by rw [show nO (gT s.ts 0).kd=1 from (kd_3 hk).symm];rfl))<|cN) (fun _=>?_)
  refine aB ?_
  refine oN ?_
  refine bF (aN (aN (aT (aA ?_))))
  refine sS Tryz.f25 5 [2,3] [0,0] (fun _=>let qa:Value:=.slice s1.ta s1.ts.length s1.tc;[.string (gY ((((kZ (gT s.ts 0).kd)++([40]:List UInt8))++(([]:List UInt8)++(dS (gT s.ts 0).nu)))++(([44]:List UInt8)++x))),.string (gY (((((kZ (gT s.ts 0).kd)++([40]:List UInt8))++(([]:List UInt8)++(dS (gT s.ts 0).nu)))++(([44]:List UInt8)++x))++([41]:List UInt8))),qa,.string (gY (((((kZ (gT s.ts 0).kd)++([40]:List UInt8))++(([]:List UInt8)++(dS (gT s.ts 0).nu)))++(([44]:List UInt8)++x))++([41]:List UInt8))),qa]) (fun _=>[]) (cR [[0]]<|cB (a:=fun ρ=>(.string (gY ((((kZ (gT s.ts 0).kd)++([40]:List UInt8))++(([]:List UInt8)++(dS (gT s.ts 0).nu)))++(([44]:List UInt8)++x))))) (b:=fun ρ=>(.string (gY ([41]:List UInt8)))) (v:=fun ρ=>(.string (gY (((((kZ (gT s.ts 0).kd)++([40]:List UInt8))++(([]:List UInt8)++(dS (gT s.ts 0).nu)))++(([44]:List UInt8)++x))++([41]:List UInt8))))) .add 9 (fun _ w=>jP ((((kZ (gT s.ts 0).kd)++([40]:List UInt8))++(([]:List UInt8)++(dS (gT s.ts 0).nu)))++(([44]:List UInt8)++x)) ([41]:List UInt8) (by have q1:=jY (gT s.ts 0).kd;have q2:=kP (n:=(gT s.ts 0).nu) (by have:=(ho.gT 0).nu;omega);have q3:=hx;simp only [List.length_append,List.length_cons,List.length_nil] at *;omega) w)<|jE [[],[],[]]) (fun _=>?_)
  refine aF ?_
  exact mR (v:=(.tuple #[.string (gY (((((kZ (gT s.ts 0).kd)++([40]:List UInt8))++(([]:List UInt8)++(dS (gT s.ts 0).nu)))++(([44]:List UInt8)++x))++([41]:List UInt8))),.slice s1.ta s1.ts.length s1.tc])) (fun _ hS=>⟨congrArg (fun z=>Ending.returned (.tuple #[.string (gY z),.slice s1.ta s1.ts.length s1.tc])) (sl4 (by have:=kR hb1;have:=xQ hb2;omega)),hS.bel⟩)
 rw [hb2]
 refine sS Tryz.f25 2 [0,2,3,4,5,7,40] [] (fun _=>[vT,vT]) (fun _=>[]) (jQ (fun ρ=>((gT s.ts 0).kd==5)) true (fun _=>(slT_q (show (gT s.ts 0).kd=5 by have e:(gT s.ts 0).kd=(gT s.ts 0).kd:=rfl;have:=kR hb1;have:=kR hb2;omega)))<|jE [[]]) (fun _=>?_)
 refine oY ?_
 refine rS Tryz.f25 5 [0,2,3,4,5,7] [] (fun _=>[.func (.func 42) #[] #[pt (nb ρ3 5),pt (nb ρ4 0)],jp (nb ρ2 5) 3,.slice (some ⟨nb ρ2 5,3,none⟩) (hL (gT s.ts 0).h).length 32,.string (gY (l7 (hL (gT s.ts 0).h))),.tuple #[]]) (fun _=>[(4,{ puts:=[(1,nb ρ3 5,(cL #[.string (gY (((kZ (gT s.ts 0).kd)++([40]:List UInt8))++(([]:List UInt8)++(l7 (hL (gT s.ts 0).h)))))] 9)),(2,nb ρ4 0,(cL #[.string ⟨#[44]⟩] 9))]})]) (cR [[],[],[]]<|cX (qC (fun _ _ w hG=>hex_any (some ⟨nb ρ2 5,3,none⟩) 32 (hL (gT s.ts 0).h) (by rw [aO];decide) w (Bs.of_term (hG.kn (g:=nb ρ2 5) (o:=(cL (bW.row (gT s.ts 0)) 50)) 0))))<|cX (qW [1,2] (fun _ _ w hG hK=>o8 (l7 (hL (gT s.ts 0).h)) (nb ρ3 5) (nb ρ4 0) ((kZ (gT s.ts 0).kd)++([40]:List UInt8)) ([]:List UInt8) (by have q1:=jY (gT s.ts 0).kd;have q2:=kP (n:=(gT s.ts 0).nu) (by have:=(ho.gT 0).nu;omega);have q3:=hx;simp only [List.length_append,List.length_cons,List.length_nil] at *;omega) (by decide) (by have q1:=jY (gT s.ts 0).kd;have q2:=kP (n:=(gT s.ts 0).nu) (by have:=(ho.gT 0).nu;omega);have q3:=hx;simp only [List.length_append,List.length_cons,List.length_nil,eG,aO] at *;omega) w hK (hG.pK [1,2] (fun _ _=>trivial))))<|cN) (fun _=>?_)
 refine aJ (aA (aB (jM Tryz.f25 4 [0,2,3,4,5,7,48,49,50] [] [jp (nb ρ2 5) 35,.slice (gT s.ts 0).ka (gT s.ts 0).ks.length (gT s.ts 0).kc,vn (gT s.ts 0).ks.length,vi 0] [[],[0],[],[]] (aI ?_))))
 refine kX 1 ?_
 refine dI ?_
 refine sS Tryz.f25 1 [0,2,3,4,5,7,48,49,50,51] [] (fun _=>[vF]) (fun _=>[]) (jQ (fun ρ=>(decide (0<(((gT s.ts 0).ks.length:Nat):Int)))) false (fun _=>(show (decide (0<(((gT s.ts 0).ks.length:Nat):Int)))=false by as_aux_lemma=>rw [hkl];rfl))<|cN) (fun _=>?_)
 refine aB ?_
 refine oN ?_
 refine bF (aN (aN (aT (aA (aB ?_)))))
 refine sS Tryz.f25 4 [0,2,3,5,7,61,62] [0,1,1] (fun _=>[pt (nb ρ2 5),vi (gT s.ts 0).kd,vi (nO (gT s.ts 0).kd),vi 0]) (fun _=>[]) (cR [[],[0]]<|cC (fun _ w=>oU (gT s.ts 0).kd w)<|jE [[]]) (fun _=>?_)
 refine lK [(0,(.slice (jA s.ta s.tc 1 36) s.ts.tail.length (s.tc-1))),(2,(.string ⟨#[]⟩)),(3,vz),(5,(pt (nb ρ3 5))),(7,(.func (.func 42) #[] #[pt (nb ρ3 5),pt (nb ρ4 0)])),(61,(vi (nO (gT s.ts 0).kd))),(62,(vi 0))] [(nb ρ3 5,(cL #[.string (gY (((kZ (gT s.ts 0).kd)++([40]:List UInt8))++(([]:List UInt8)++(l7 (hL (gT s.ts 0).h)))))] 9)),(nb ρ4 0,(cL #[.string ⟨#[44]⟩] 9))] ?_
 refine aI ?_
 refine kX 2 ?_
 refine dI ?_
 refine sS Tryz.f25 1 [0,2,3,5,7,61,62,63] [] (fun _=>[vT]) (fun _=>[]) (jQ (fun ρ=>(decide (0<(nO (gT s.ts 0).kd)))) true (fun _=>(show (decide (0<(nO (gT s.ts 0).kd)))=true by rw [show nO (gT s.ts 0).kd=1 from (kd_3 hk).symm];rfl))<|cN) (fun _=>?_)
 refine aB ?_
 refine oY ?_
 refine aG (aA (aB (aI (jJ Tryz.f25 1 [0,2,3,5,7,10,61,62,63] [.string ⟨#[]⟩] ?_))))
 refine sS Tryz.f25 7 [0,2,3,5,7,10,61,62,63,64,65,66,67,68] [] (fun _=>let qa:Value:=.slice s1.ta s1.ts.length s1.tc;[.slice (jA s.ta s.tc 1 36) s.ts.tail.length (s.tc-1),.tuple #[.string (gY x),qa],.tuple #[.string (gY x),qa],.string (gY x),qa,.string (gY x),qa]) (fun _=>[]) (cR [[]]<|cX (qC (fun _ _ w hG=>ih w hG.fn.2.2.1 hG.fn.2.1))<|jE [[],[],[],[],[]]) (fun _=>?_)
 refine rS Tryz.f25 3 [0,2,3,5,7,10,61,62,63,64,65,66,67,68,69,70] [] (fun _=>[.func (.func 42) #[] #[pt (nb ρ3 5),pt (nb ρ4 0)],.string (gY x),.tuple #[]]) (fun _=>[(2,{ puts:=[(0,nb ρ3 5,(cL #[.string (gY ((((kZ (gT s.ts 0).kd)++([40]:List UInt8))++(([]:List UInt8)++(l7 (hL (gT s.ts 0).h))))++(([44]:List UInt8)++x)))] 9)),(1,nb ρ4 0,(cL #[.string ⟨#[44]⟩] 9))]})]) (cR [[],[]]<|cX (qW [0,1] (fun _ _ w hG hK=>o8 x (nb ρ3 5) (nb ρ4 0) (((kZ (gT s.ts 0).kd)++([40]:List UInt8))++(([]:List UInt8)++(l7 (hL (gT s.ts 0).h)))) ([44]:List UInt8) (by have q1:=jY (gT s.ts 0).kd;have q2:=kP (n:=(gT s.ts 0).nu) (by have:=(ho.gT 0).nu;omega);have q3:=hx;simp only [List.length_append,List.length_cons,List.length_nil,eG,aO] at *;omega) (by decide) (by have q1:=jY (gT s.ts 0).kd;have q2:=kP (n:=(gT s.ts 0).nu) (by have:=(ho.gT 0).nu;omega);have q3:=hx;simp only [List.length_append,List.length_cons,List.length_nil,eG,aO] at *;omega) w hK (hG.pK [0,1] (fun _ _=>trivial))))<|cN) (fun _=>?_)
 refine aJ (aA (jL Tryz.f25 2 [0,2,3,5,7,10,61,62,63,64,65,66,67,68,69,70,72] [] [vi 1,vi 1] [[],[]] (dV ?_)))
 refine dI ?_
 refine sS Tryz.f25 1 [0,2,3,5,7,10,61,62,63,64,65,66,67,68,69,70,72] [] (fun _=>[vF]) (fun _=>[]) (jQ (fun ρ=>(decide (1<(nO (gT s.ts 0).kd)))) false (fun _=>(show (decide (1<(nO (gT s.ts 0).kd)))=false by rw [show nO (gT s.ts 0).kd=1 from (kd_3 hk).symm];rfl))<|cN) (fun _=>?_)
 refine aB ?_
 refine oN ?_
 refine bF (aN (aN (aT (aA ?_))))
 refine sS Tryz.f25 5 [2,3] [0,0] (fun _=>let qa:Value:=.slice s1.ta s1.ts.length s1.tc;[.string (gY ((((kZ (gT s.ts 0).kd)++([40]:List UInt8))++(([]:List UInt8)++(l7 (hL (gT s.ts 0).h))))++(([44]:List UInt8)++x))),.string (gY (((((kZ (gT s.ts 0).kd)++([40]:List UInt8))++(([]:List UInt8)++(l7 (hL (gT s.ts 0).h))))++(([44]:List UInt8)++x))++([41]:List UInt8))),qa,.string (gY (((((kZ (gT s.ts 0).kd)++([40]:List UInt8))++(([]:List UInt8)++(l7 (hL (gT s.ts 0).h))))++(([44]:List UInt8)++x))++([41]:List UInt8))),qa]) (fun _=>[]) (cR [[0]]<|cB (a:=fun ρ=>(.string (gY ((((kZ (gT s.ts 0).kd)++([40]:List UInt8))++(([]:List UInt8)++(l7 (hL (gT s.ts 0).h))))++(([44]:List UInt8)++x))))) (b:=fun ρ=>(.string (gY ([41]:List UInt8)))) (v:=fun ρ=>(.string (gY (((((kZ (gT s.ts 0).kd)++([40]:List UInt8))++(([]:List UInt8)++(l7 (hL (gT s.ts 0).h))))++(([44]:List UInt8)++x))++([41]:List UInt8))))) .add 9 (fun _ w=>jP ((((kZ (gT s.ts 0).kd)++([40]:List UInt8))++(([]:List UInt8)++(l7 (hL (gT s.ts 0).h))))++(([44]:List UInt8)++x)) ([41]:List UInt8) (by have q1:=jY (gT s.ts 0).kd;have q2:=kP (n:=(gT s.ts 0).nu) (by have:=(ho.gT 0).nu;omega);have q3:=hx;simp only [List.length_append,List.length_cons,List.length_nil,eG,aO] at *;omega) w)<|jE [[],[],[]]) (fun _=>?_)
 refine aF ?_
 exact mR (v:=(.tuple #[.string (gY (((((kZ (gT s.ts 0).kd)++([40]:List UInt8))++(([]:List UInt8)++(l7 (hL (gT s.ts 0).h))))++(([44]:List UInt8)++x))++([41]:List UInt8))),.slice s1.ta s1.ts.length s1.tc])) (fun _ hS=>⟨congrArg (fun z=>Ending.returned (.tuple #[.string (gY z),.slice s1.ta s1.ts.length s1.tc])) (sl5 (by have:=kR hb1;have:=kR hb2;omega)),hS.bel⟩)
theorem body6_any (s:Tq) (x:List UInt8) (s1:Tq) (y:List UInt8) (s2:Tq) (hk:(gT s.ts 0).kd=6) (h0:0<s.ts.length) (hfd:(gT s.ts 0).fw=true) (_ho:mP s.ts) (_hq:TxS s.ts) (hx:x.length≤5200000000000) (ih:BdC s.go x s1) (hy:y.length≤5200000000000) (ih2:BdC s1 y s2) (w0:World) (hf0:bM w0 s.ta s.tc s.ts) (hf1:xB w0) (hf2:bM w0 s1.ta s1.tc s1.ts):Calls Tryz.prog 25 #[.slice s.ta s.ts.length s.tc] w0 (jR (.tuple #[.string (gY (eiT x y)),.slice s2.ta s2.ts.length s2.tc]) w0):=by
 refine Calls.of_ok (n:=76) (F:=(fun w=>bM w s.ta s.tc s.ts∧xB w∧bM w s1.ta s1.tc s1.ts∧True)) Tryz.func25 rfl rfl rfl (by simp) (hf0.pers0.and (hf1.pers0.and (hf2.pers0.and cO))) ?_
 have hkl:(gT s.ts 0).ks.length=0:=(by have:=fw_iff hfd;unfold FwP at this;omega)
 have hlen:s.ts.length≤1000000:=hf0.max
 refine jJ Tryz.f25 2 [0,2,3] [.string ⟨#[]⟩,vz] ?_
 refine sDf Tryz.f25 [0,1,3,0,8,0,39,127] 8 [0,2,3,4] [] (fun ρ=>let qa:Value:=.slice (jA s.ta s.tc 1 36) s.ts.tail.length (s.tc-1);let qb:Value:=.slice s.ta s.ts.length s.tc;[qb,.pointer (fK s.ta (0*36)),.agg (bW.row (gT s.ts 0)),qb,qa,pt (nb ρ 5),undef,qa]) (fun ρ=>[(5,(nw ρ 5 (cL (iC 0 0 0 0 vz) 50))),(6,(bD 40 (nb ρ 5) (cL (bW.row (gT s.ts 0)) 50)))]) (fun _=>[(4,fun w=>bM w (jA s.ta s.tc 1 36) (s.tc-1) s.ts.tail)]) (fun _=>(fun w=>bM w s.ta s.tc s.ts∧xB w∧bM w s1.ta s1.tc s1.ts∧bM w (jA s.ta s.tc 1 36) (s.tc-1) s.ts.tail∧True)) (fun _=>True) (fun _ _ hF hf=>⟨⟨hF.1,hF.2.1,hF.2.2.1,hf 4,trivial⟩,trivial⟩) (cR [[]]<|cX (qF (fun _ _ _ hG=>bM.idx (k:=.i64) Tryz.underlying24 Tryz.sizeOf50 hG.fn.1 rfl (show 0=((0:Nat):Int) from rfl) (show 0<s.ts.length from h0)))<|cX (qF (fun _ _ _ hG=>bM.ldA (i:=0) Tryz.isAgg50 Tryz.sizeOf50 hG.fn.1 (show 0<s.ts.length from h0)))<|cR [[]]<|cX (jF (fun _=>Instr.sliceAt 24 (.slice s.ta s.ts.length s.tc) (some (vi 1)) none none) (fun _=>(.slice (jA s.ta s.tc 1 36) s.ts.tail.length (s.tc-1))) (fun _ _ _ hG=>fP (k:=1) Tryz.underlying24 Tryz.sizeOf50 rfl (jI (rfl)) h0 hG.fn.1.le (by rw [List.length_tail])) (fun _ _ w hG=>hG.facts0.mono (fun _ hF=>hF.1.tail h0)))<|jE [[],[40],[]]) (fun ρ2 _=>?_)
 refine sD Tryz.f25 [0,0,2,7,15,0,63] 7 [0,2,3,4,5] [] (fun ρ=>[.agg #[.string ⟨#[]⟩,.string ⟨#[107,101,121]⟩,.string ⟨#[109,117,108,116,105]⟩,.string ⟨#[97,102,116,101,114]⟩,.string ⟨#[111,108,100,101,114]⟩,.string ⟨#[104,97,115,104]⟩,.string ⟨#[101,105,116,104,101,114]⟩],pt (nb ρ2 5),vi (gT s.ts 0).kd,.string (gY (kZ (gT s.ts 0).kd)),.string (gY ((kZ (gT s.ts 0).kd)++([40]:List UInt8))),pt (nb ρ 5),undef]) (fun ρ=>[(5,(nw ρ 5 (cL #[.string ⟨#[]⟩] 9))),(6,(bD 41 (nb ρ 5) (cL #[.string (gY ((kZ (gT s.ts 0).kd)++([40]:List UInt8)))] 9)))]) (cC (fun _ w=>wO w)<|cR [[],[0]]<|cX (jS (fun _=>Instr.index 78 (.agg #[.string ⟨#[]⟩,.string ⟨#[107,101,121]⟩,.string ⟨#[109,117,108,116,105]⟩,.string ⟨#[97,102,116,101,114]⟩,.string ⟨#[111,108,100,101,114]⟩,.string ⟨#[104,97,115,104]⟩,.string ⟨#[101,105,116,104,101,114]⟩]) (vi (gT s.ts 0).kd)) (fun _=>(.string (gY (kZ (gT s.ts 0).kd)))) (fun _ w=>nm_at _ (by omega) w))<|cB (a:=fun ρ=>(.string (gY (kZ (gT s.ts 0).kd)))) (b:=fun ρ=>(.string (gY ([40]:List UInt8)))) (v:=fun ρ=>(.string (gY ((kZ (gT s.ts 0).kd)++([40]:List UInt8))))) .add 9 (fun _ w=>jP (kZ (gT s.ts 0).kd) ([40]:List UInt8) (by have q1:=jY (gT s.ts 0).kd;have q3:=hx;have q4:=hy;simp only [List.length_cons,List.length_nil] at *;omega) w)<|jE [[],[41]]) (fun ρ3=>?_)
 refine sS Tryz.f25 2 [0,2,3,4,5,6] [] (fun ρ=>[pt (nb ρ 0),undef]) (fun ρ=>[(0,(nw ρ 0 (cL #[.string ⟨#[]⟩] 9))),(1,(bD 2 (nb ρ 0) (cL #[.string ⟨#[]⟩] 9)))]) (jE [[],[2]]) (fun ρ4=>?_)
 refine jJ Tryz.f25 2 [0,2,3,4,5,7] [.func (.func 42) #[] #[pt (nb ρ3 5),pt (nb ρ4 0)],.func (.func 42) #[] #[pt (nb ρ3 5),pt (nb ρ4 0)]] (aB (jM Tryz.f25 2 [0,2,3,4,5,7,23] [] [pt (nb ρ2 5),vi (gT s.ts 0).kd] [[],[0]] (aI ?_)))
 refine sS Tryz.f25 2 [0,2,3,4,5,7,23,24] [] (fun _=>[vF,vF]) (fun _=>[]) (jQ (fun ρ=>((gT s.ts 0).kd==2)) false (fun _=>(jK hk rfl))<|jE [[]]) (fun _=>?_)
 refine lK [(0,(.slice (jA s.ta s.tc 1 36) s.ts.tail.length (s.tc-1))),(2,(.string ⟨#[]⟩)),(3,vz),(4,(pt (nb ρ2 5))),(5,(pt (nb ρ3 5))),(7,(.func (.func 42) #[] #[pt (nb ρ3 5),pt (nb ρ4 0)])),(23,(vi (gT s.ts 0).kd)),(24,vF)] [(nb ρ2 5,(cL (bW.row (gT s.ts 0)) 50)),(nb ρ3 5,(cL #[.string (gY ((kZ (gT s.ts 0).kd)++([40]:List UInt8)))] 9)),(nb ρ4 0,(cL #[.string ⟨#[]⟩] 9))] ?_
 refine oN ?_
 refine aB ?_
 refine sS Tryz.f25 2 [0,2,3,4,5,7,23,31] [] (fun _=>[vF,vF]) (fun _=>[]) (jQ (fun ρ=>((gT s.ts 0).kd==3)) false (fun _=>(jK hk rfl))<|jE [[]]) (fun _=>?_)
 refine oN ?_
 refine rS Tryz.f25 2 [0,2,3,4,5,7,23,31] [] (fun _=>[vF,vF]) (fun _=>[]) (jQ (fun ρ=>((gT s.ts 0).kd==4)) false (fun _=>(jK hk rfl))<|jE [[]]) (fun _=>?_)
 refine aA ?_
 refine oN ?_
 refine sS Tryz.f25 2 [0,2,3,4,5,7,40] [] (fun _=>[vF,vF]) (fun _=>[]) (jQ (fun ρ=>((gT s.ts 0).kd==5)) false (fun _=>(jK hk rfl))<|jE [[]]) (fun _=>?_)
 refine oN ?_
 refine aG (aJ (aA (aB (jM Tryz.f25 4 [0,2,3,4,5,7,48,49,50] [] [jp (nb ρ2 5) 35,.slice (gT s.ts 0).ka (gT s.ts 0).ks.length (gT s.ts 0).kc,vn (gT s.ts 0).ks.length,vi 0] [[],[0],[],[]] (aI ?_)))))
 refine kX 1 ?_
 refine dI ?_
 refine sS Tryz.f25 1 [0,2,3,4,5,7,48,49,50,51] [] (fun _=>[vF]) (fun _=>[]) (jQ (fun ρ=>(decide (0<(((gT s.ts 0).ks.length:Nat):Int)))) false (fun _=>(show (decide (0<(((gT s.ts 0).ks.length:Nat):Int)))=false by as_aux_lemma=>rw [hkl];rfl))<|cN) (fun _=>?_)
 refine aB ?_
 refine oN ?_
 refine bF (aN (aN (aT (aA (aB ?_)))))
 refine sS Tryz.f25 4 [0,2,3,5,7,61,62] [0,1,1] (fun _=>[pt (nb ρ2 5),vi (gT s.ts 0).kd,vi (nO (gT s.ts 0).kd),vi 0]) (fun _=>[]) (cR [[],[0]]<|cC (fun _ w=>oU (gT s.ts 0).kd w)<|jE [[]]) (fun _=>?_)
 refine aI ?_
 refine kX 3 ?_
 refine dI ?_
 refine sS Tryz.f25 1 [0,2,3,5,7,61,62,63] [] (fun _=>[vT]) (fun _=>[]) (jQ (fun ρ=>(decide (0<(nO (gT s.ts 0).kd)))) true (fun _=>(show (decide (0<(nO (gT s.ts 0).kd)))=true by rw [show nO (gT s.ts 0).kd=2 from by rw [show (gT s.ts 0).kd=6 from hk];rfl];rfl))<|cN) (fun _=>?_)
 refine lK [(0,(.slice (jA s.ta s.tc 1 36) s.ts.tail.length (s.tc-1))),(2,(.string ⟨#[]⟩)),(3,vz),(5,(pt (nb ρ3 5))),(7,(.func (.func 42) #[] #[pt (nb ρ3 5),pt (nb ρ4 0)])),(61,(vi (nO (gT s.ts 0).kd))),(62,(vi 0)),(63,vT)] [(nb ρ3 5,(cL #[.string (gY ((kZ (gT s.ts 0).kd)++([40]:List UInt8)))] 9)),(nb ρ4 0,(cL #[.string ⟨#[]⟩] 9))] ?_
 refine aB ?_
 refine oY ?_
 refine aG (aA (aB (aI (jJ Tryz.f25 1 [0,2,3,5,7,10,61,62,63] [.string ⟨#[]⟩] ?_))))
 refine sS Tryz.f25 7 [0,2,3,5,7,10,61,62,63,64,65,66,67,68] [] (fun _=>let qa:Value:=.slice s1.ta s1.ts.length s1.tc;[.slice (jA s.ta s.tc 1 36) s.ts.tail.length (s.tc-1),.tuple #[.string (gY x),qa],.tuple #[.string (gY x),qa],.string (gY x),qa,.string (gY x),qa]) (fun _=>[]) (cR [[]]<|cX (qC (fun _ _ w hG=>ih w hG.fn.2.2.2.1 hG.fn.2.1))<|jE [[],[],[],[],[]]) (fun _=>?_)
 refine rS Tryz.f25 3 [0,2,3,5,7,10,61,62,63,64,65,66,67,68,69,70] [] (fun _=>[.func (.func 42) #[] #[pt (nb ρ3 5),pt (nb ρ4 0)],.string (gY x),.tuple #[]]) (fun _=>[(2,{ puts:=[(0,nb ρ3 5,(cL #[.string (gY (((kZ (gT s.ts 0).kd)++([40]:List UInt8))++(([]:List UInt8)++x)))] 9)),(1,nb ρ4 0,(cL #[.string ⟨#[44]⟩] 9))]})]) (cR [[],[]]<|cX (qW [0,1] (fun _ _ w hG hK=>o8 x (nb ρ3 5) (nb ρ4 0) ((kZ (gT s.ts 0).kd)++([40]:List UInt8)) ([]:List UInt8) (by have q1:=jY (gT s.ts 0).kd;have q3:=hx;have q4:=hy;simp only [List.length_append,List.length_cons,List.length_nil] at *;omega) (by decide) (by have q1:=jY (gT s.ts 0).kd;have q3:=hx;have q4:=hy;simp only [List.length_append,List.length_cons,List.length_nil] at *;omega) w hK (hG.pK [0,1] (fun _ _=>trivial))))<|cN) (fun _=>?_)
 refine aJ (aA (jL Tryz.f25 2 [0,2,3,5,7,10,61,62,63,64,65,66,67,68,69,70,72] [] [vi 1,vi 1] [[],[]] (dV ?_)))
 refine dI ?_
 refine sS Tryz.f25 1 [0,2,3,5,7,10,61,62,63,64,65,66,67,68,69,70,72] [] (fun _=>[vT]) (fun _=>[]) (jQ (fun ρ=>(decide (1<(nO (gT s.ts 0).kd)))) true (fun _=>(show (decide (1<(nO (gT s.ts 0).kd)))=true by rw [show nO (gT s.ts 0).kd=2 from by rw [show (gT s.ts 0).kd=6 from hk];rfl];rfl))<|cN) (fun _=>?_)
 refine aB ?_
 refine oY ?_
 refine aG (aA (aB (aI (jJ Tryz.f25 1 [0,2,3,5,7,10,61,62,63,64,65,66,67,68,69,70,72] [.string ⟨#[]⟩] ?_))))
 refine sS Tryz.f25 7 [0,2,3,5,7,10,61,62,63,64,65,66,67,68,69,70,72] [] (fun _=>let qa:Value:=.slice s2.ta s2.ts.length s2.tc;[.slice s1.ta s1.ts.length s1.tc,.tuple #[.string (gY y),qa],.tuple #[.string (gY y),qa],.string (gY y),qa,.string (gY y),qa]) (fun _=>[]) (cR [[]]<|cX (qC (fun _ _ w hG=>ih2 w hG.fn.2.2.1 hG.fn.2.1))<|jE [[],[],[],[],[]]) (fun _=>?_)
 refine lK [(0,(.slice s2.ta s2.ts.length s2.tc)),(2,(.string ⟨#[]⟩)),(3,vz),(5,(pt (nb ρ3 5))),(7,(.func (.func 42) #[] #[pt (nb ρ3 5),pt (nb ρ4 0)])),(10,(.string (gY y))),(61,(vi (nO (gT s.ts 0).kd))),(62,(vi 1)),(63,vT),(64,(.tuple #[.string (gY y),.slice s2.ta s2.ts.length s2.tc])),(65,(.slice s1.ta s1.ts.length s1.tc)),(66,(.tuple #[.string (gY y),.slice s2.ta s2.ts.length s2.tc])),(67,(.string (gY y))),(68,(.slice s2.ta s2.ts.length s2.tc)),(69,(.func (.func 42) #[] #[pt (nb ρ3 5),pt (nb ρ4 0)])),(70,(.string (gY x))),(72,(vi 1))] [(nb ρ3 5,(cL #[.string (gY (((kZ (gT s.ts 0).kd)++([40]:List UInt8))++(([]:List UInt8)++x)))] 9)),(nb ρ4 0,(cL #[.string ⟨#[44]⟩] 9))] ?_
 refine rS Tryz.f25 3 [0,2,3,5,7,10,61,62,63,64,65,66,67,68,69,70,72] [] (fun _=>[.func (.func 42) #[] #[pt (nb ρ3 5),pt (nb ρ4 0)],.string (gY y),.tuple #[]]) (fun _=>[(2,{ puts:=[(0,nb ρ3 5,(cL #[.string (gY ((((kZ (gT s.ts 0).kd)++([40]:List UInt8))++(([]:List UInt8)++x))++(([44]:List UInt8)++y)))] 9)),(1,nb ρ4 0,(cL #[.string ⟨#[44]⟩] 9))]})]) (cR [[],[]]<|cX (qW [0,1] (fun _ _ w hG hK=>o8 y (nb ρ3 5) (nb ρ4 0) (((kZ (gT s.ts 0).kd)++([40]:List UInt8))++(([]:List UInt8)++x)) ([44]:List UInt8) (by have q1:=jY (gT s.ts 0).kd;have q3:=hx;have q4:=hy;simp only [List.length_append,List.length_cons,List.length_nil] at *;omega) (by decide) (by have q1:=jY (gT s.ts 0).kd;have q3:=hx;have q4:=hy;simp only [List.length_append,List.length_cons,List.length_nil] at *;omega) w hK (hG.pK [0,1] (fun _ _=>trivial))))<|cN) (fun _=>?_)
 refine aJ (aA (jL Tryz.f25 2 [0,2,3,5,7,10,61,62,63,64,65,66,67,68,69,70,72] [] [vi 2,vi 2] [[],[]] (dV ?_)))
 refine dI ?_
 refine sS Tryz.f25 1 [0,2,3,5,7,10,61,62,63,64,65,66,67,68,69,70,72] [] (fun _=>[vF]) (fun _=>[]) (jQ (fun ρ=>(decide (2<(nO (gT s.ts 0).kd)))) false (fun _=>(show (decide (2<(nO (gT s.ts 0).kd)))=false by rw [show nO (gT s.ts 0).kd=2 from by rw [show (gT s.ts 0).kd=6 from hk];rfl];rfl))<|cN) (fun _=>?_)
 refine aB ?_
 refine oN ?_
 refine bF (aN (aN (aT (aA ?_))))
 refine sS Tryz.f25 5 [2,3] [0,0] (fun _=>let qa:Value:=.slice s2.ta s2.ts.length s2.tc;[.string (gY ((((kZ (gT s.ts 0).kd)++([40]:List UInt8))++(([]:List UInt8)++x))++(([44]:List UInt8)++y))),.string (gY (((((kZ (gT s.ts 0).kd)++([40]:List UInt8))++(([]:List UInt8)++x))++(([44]:List UInt8)++y))++([41]:List UInt8))),qa,.string (gY (((((kZ (gT s.ts 0).kd)++([40]:List UInt8))++(([]:List UInt8)++x))++(([44]:List UInt8)++y))++([41]:List UInt8))),qa]) (fun _=>[]) (cR [[0]]<|cB (a:=fun ρ=>(.string (gY ((((kZ (gT s.ts 0).kd)++([40]:List UInt8))++(([]:List UInt8)++x))++(([44]:List UInt8)++y))))) (b:=fun ρ=>(.string (gY ([41]:List UInt8)))) (v:=fun ρ=>(.string (gY (((((kZ (gT s.ts 0).kd)++([40]:List UInt8))++(([]:List UInt8)++x))++(([44]:List UInt8)++y))++([41]:List UInt8))))) .add 9 (fun _ w=>jP ((((kZ (gT s.ts 0).kd)++([40]:List UInt8))++(([]:List UInt8)++x))++(([44]:List UInt8)++y)) ([41]:List UInt8) (by have q1:=jY (gT s.ts 0).kd;have q3:=hx;have q4:=hy;simp only [List.length_append,List.length_cons,List.length_nil] at *;omega) w)<|jE [[],[],[]]) (fun _=>?_)
 refine aF ?_
 exact mR (v:=(.tuple #[.string (gY (((((kZ (gT s.ts 0).kd)++([40]:List UInt8))++(([]:List UInt8)++x))++(([44]:List UInt8)++y))++([41]:List UInt8))),.slice s2.ta s2.ts.length s2.tc])) (fun _ hS=>⟨congrArg (fun z=>Ending.returned (.tuple #[.string (gY z),.slice s2.ta s2.ts.length s2.tc])) (kb6 hk),hS.bel⟩)
theorem xBX : ∀ (f : Nat) (s : Tq) (x : List UInt8) (s' : Tq), f ≤ 8 → bx f s = some (x, s') → TxS s.ts → mP s.ts → BdC s x s'
  | 0,_,_,_,_,h,_,_=>by simp [bx] at h
  | f + 1, s, x, s', hf, h, hq, ho => by
    have hp:2^f≤2^7:=Nat.pow_le_pow_right (by decide) (by omega)
    have big:∀ {x:List UInt8} {s s1:Tq},TxS s.ts→mP s.ts→bx f s=some (x,s1)→x.length≤5200000000000:=fun a b h=>by have:=bx_len f _ _ _ a b h;omega
    unfold bx at h
    split at h
    · exact absurd h (by simp)
    rename_i hc
    have h0:0<s.ts.length:=by omega
    have hfd:s.fst.fw=true:=by
      cases e:s.fst.fw with
      | true=>rfl
      | false=>exact absurd (Or.inr e) hc
    have hg:TqL s s.go:=TqL.go h0
    split at h
    · rename_i hk
      simp only [Option.some.injEq,Prod.mk.injEq] at h;rw [← h.1,← h.2]
      exact fun w0 hT hP=>body1_any s hk h0 hfd ho hq w0 hT hP
    split at h
    · rename_i hk
      simp only [Option.some.injEq,Prod.mk.injEq] at h;rw [← h.1,← h.2]
      exact fun w0 hT hP=>body2_any s hk h0 hfd ho hq w0 hT hP
    split at h
    · exact absurd h (by simp)
    rename_i k1 k2 _ a s1 e1
    have gq:TxS s.go.ts:=fun t ht=>hq t (hg.m t ht)
    have go:mP s.go.ts:=fun t ht=>ho t (hg.m t ht)
    have i1:=xBX f _ _ _ (by omega) e1 gq go
    split at h
    · rename_i hk
      split at h
      · exact absurd h (by simp)
      rename_i b2 s2 e2
      have l1:=hg.trans (yS f _ _ _ e1)
      have g2:TxS s1.ts:=fun t ht=>hq t (l1.m t ht)
      have o2:mP s1.ts:=fun t ht=>ho t (l1.m t ht)
      have i2:=xBX f _ _ _ (by omega) e2 g2 o2
      simp only [Option.some.injEq,Prod.mk.injEq] at h;rw [← h.1,← h.2]
      exact fun w0 hT hP=>body6_any s a s1 b2 s2 hk h0 hfd ho hq (big gq go e1) i1 (big g2 o2 e2) i2 w0 hT hP (l1.t w0 hT)
    · split at h
      · rename_i hk
        have hk:s.fst.kd=3∨s.fst.kd=4∨s.fst.kd=5:=by omega
        simp only [Option.some.injEq,Prod.mk.injEq] at h;rw [← h.1,← h.2]
        exact fun w0 hT hP=>body3_any s a s1 hk h0 hfd ho hq (big gq go e1) i1 w0 hT hP
      · exact absurd h (by simp)
def xN (ts:List bW):Int:=if xW ts=true then (if 16384<(bxB ts).length+9 then 4 else 0) else 260
def wU (ts:List bW):List UInt8:=if xN ts=0 then bxB ts++([35]++l7 ((hL (lV xU (bxB ts))).take 4)) else []
theorem xAM (S:List UInt8):(l7 ((hL (lV xU S)).take 4)).length=8:=by rw [eG,List.length_take,aO];decide
section
variable {ts : List bW}
theorem tx_bad (h:xW ts=false):xN ts=260∧wU ts=[]:=by
  have e:xN ts=260:=by unfold xN;rw [h];rfl
  exact ⟨e,by unfold wU;rw [e];rfl⟩
theorem tx_long (h:xW ts=true) (h1:16384<(bxB ts).length+9):xN ts=4∧wU ts=[]:=by
  have e:xN ts=4:=by unfold xN;rw [if_pos h,if_pos h1]
  exact ⟨e,by unfold wU;rw [e];rfl⟩
theorem tx_ok (h:xW ts=true) (h1: ¬ 16384<(bxB ts).length+9):xN ts=0∧wU ts=bxB ts++([35]++l7 ((hL (lV xU (bxB ts))).take 4)):=by
  have e:xN ts=0:=by unfold xN;rw [if_pos h,if_neg h1]
  exact ⟨e,by unfold wU;rw [if_pos e]⟩
end
theorem dtextw_any (a:Option Addr) (c:Nat) (ts:List bW) (s1:Tq) (hB:xW ts=true→BdC ⟨a,c,ts⟩ (bxB ts) s1) (w0:World) (hf0:bM w0 a c ts) (hf1:xB w0) (hf2:kJ w0) (hf3:fU w0):Calls Tryz.prog 10 #[.slice a ts.length c] w0 (jR (.tuple #[.string (gY (wU ts)),vi (xN ts)]) w0):=by
 refine Calls.of_ok (n:=23) (F:=(fun w=>bM w a c ts∧xB w∧kJ w∧fU w∧True)) Tryz.func10 rfl rfl rfl (by simp) (hf0.pers0.and (hf1.pers0.and (hf2.pers0.and (hf3.pers0.and cO)))) ?_
 refine jJ Tryz.f10 2 [0,2,3] [.string ⟨#[]⟩,vi 0] (aB ?_)
 refine sS Tryz.f10 3 [0,2,3,8] [] (fun _=>[.slice a ts.length c,.bool (xW ts),.bool (!(xW ts))]) (fun _=>[]) (cR [[]]<|cX (qC (fun _ _ w hG=>xBT a c ts w hG.fn.1))<|jE [[]]) (fun _=>?_)
 refine oC (!(xW ts)) (fun hb1=>?_) (fun hb1=>?_)
 ·
  rw [hb1]
  refine jJ Tryz.f10 2 [0,2,3] [.string ⟨#[]⟩,vi 260] (aF (aC ?_))
  exact mR (v:=(.tuple #[.string ⟨#[]⟩,vi 260])) (fun _ hS=>⟨by rw [(tx_bad (dF hb1)).1,(tx_bad (dF hb1)).2]<;>rfl,hS.bel⟩)
 rw [hb1]
 refine aG (aA ?_)
 refine sS Tryz.f10 7 [2,3,4] [] (fun _=>let qa:Value:=.slice s1.ta s1.ts.length s1.tc;[.slice a ts.length c,.tuple #[.string (gY (bxB ts)),qa],.tuple #[.string (gY (bxB ts)),qa],.string (gY (bxB ts)),qa,.string (gY (bxB ts)),qa]) (fun _=>[]) (cR [[]]<|cX (qC (fun _ _ w hG=>hB (aV hb1) w hG.fn.1 hG.fn.2.1))<|jE [[],[],[],[],[]]) (fun _=>?_)
 refine sS Tryz.f10 6 [2,3,4] [] (fun _=>[.string (gY (bxB ts)),.string (gY (bxB ts)),.string (gY (l7 ((hL (lV xU (bxB ts))).take 4))),.string (gY (([35]:List UInt8)++(l7 ((hL (lV xU (bxB ts))).take 4)))),.string (gY ((bxB ts)++(([35]:List UInt8)++(l7 ((hL (lV xU (bxB ts))).take 4))))),.string (gY ((bxB ts)++(([35]:List UInt8)++(l7 ((hL (lV xU (bxB ts))).take 4)))))]) (fun _=>[]) (cR [[],[]]<|cX (qC (fun _ _ w hG=>dsum_any (bxB ts) (by have q:=(bxB_len (aV hb1) hf0.oks).2;omega) w hG.fn.2.2.1 hG.fn.2.2.2.1))<|cB (a:=fun ρ=>(.string (gY ([35]:List UInt8)))) (b:=fun ρ=>(.string (gY (l7 ((hL (lV xU (bxB ts))).take 4))))) (v:=fun ρ=>(.string (gY (([35]:List UInt8)++(l7 ((hL (lV xU (bxB ts))).take 4)))))) .add 9 (fun _ w=>jP ([35]:List UInt8) (l7 ((hL (lV xU (bxB ts))).take 4)) (by have q:=(bxB_len (aV hb1) hf0.oks).2;have q2:=xAM (bxB ts);simp only [List.length_cons,List.length_nil] at *;omega) w)<|cB (a:=fun ρ=>(.string (gY (bxB ts)))) (b:=fun ρ=>(.string (gY (([35]:List UInt8)++(l7 ((hL (lV xU (bxB ts))).take 4)))))) (v:=fun ρ=>(.string (gY ((bxB ts)++(([35]:List UInt8)++(l7 ((hL (lV xU (bxB ts))).take 4))))))) .add 9 (fun _ w=>jP (bxB ts) (([35]:List UInt8)++(l7 ((hL (lV xU (bxB ts))).take 4))) (by have q:=(bxB_len (aV hb1) hf0.oks).2;have q2:=xAM (bxB ts);simp only [List.length_append,List.length_cons,List.length_nil] at *;omega) w)<|jE [[]]) (fun _=>?_)
 refine aB (jJ Tryz.f10 3 [2,3,4,21] [.string (gY ((bxB ts)++(([35]:List UInt8)++(l7 ((hL (lV xU (bxB ts))).take 4))))),vn ((bxB ts)++(([35]:List UInt8)++(l7 ((hL (lV xU (bxB ts))).take 4)))).length,.bool (decide (16384<((((bxB ts)++(([35]:List UInt8)++(l7 ((hL (lV xU (bxB ts))).take 4)))).length:Nat):Int)))] ?_)
 refine oC (decide (16384<((((bxB ts)++(([35]:List UInt8)++(l7 ((hL (lV xU (bxB ts))).take 4)))).length:Nat):Int))) (fun hb2=>?_) (fun hb2=>?_)
 ·
  rw [hb2]
  refine jJ Tryz.f10 2 [2,3,4] [.string ⟨#[]⟩,vi 4] (aF (aC ?_))
  exact mR (v:=(.tuple #[.string ⟨#[]⟩,vi 4])) (fun _ hS=>⟨by rw [(tx_long (aV hb1) (by have q1:=yT hb2;have q2:=xAM (bxB ts);simp only [List.length_append,List.length_cons,List.length_nil] at *;omega)).1,(tx_long (aV hb1) (by have q1:=yT hb2;have q2:=xAM (bxB ts);simp only [List.length_append,List.length_cons,List.length_nil] at *;omega)).2]<;>rfl,hS.bel⟩)
 rw [hb2]
 refine aG (aA (jJ Tryz.f10 3 [2,3] [.string (gY ((bxB ts)++(([35]:List UInt8)++(l7 ((hL (lV xU (bxB ts))).take 4))))),.string (gY ((bxB ts)++(([35]:List UInt8)++(l7 ((hL (lV xU (bxB ts))).take 4))))),vi 0] (aF ?_)))
 exact mR (v:=(.tuple #[.string (gY ((bxB ts)++(([35]:List UInt8)++(l7 ((hL (lV xU (bxB ts))).take 4))))),vi 0])) (fun _ hS=>⟨by rw [(tx_ok (aV hb1) (by have q1:=yF hb2;have q2:=xAM (bxB ts);simp only [List.length_append,List.length_cons,List.length_nil] at *;omega)).1,(tx_ok (aV hb1) (by have q1:=yF hb2;have q2:=xAM (bxB ts);simp only [List.length_append,List.length_cons,List.length_nil] at *;omega)).2]<;>rfl,hS.bel⟩)
theorem dtext_any (a:Option Addr) (c:Nat) (ts:List bW) (w0:World) (hf0:bM w0 a c ts) (hf1:xB w0) (hf2:kJ w0) (hf3:fU w0):Calls Tryz.prog 10 #[.slice a ts.length c] w0 (jR (.tuple #[.string (gY (wU ts)),.int .i64 (xN ts)]) w0):=by
  by_cases hv:xW ts=true
  · obtain ⟨s1, h⟩ := bx_go hv a c
    exact dtextw_any a c ts s1 (fun _=>xBX 8 _ _ _ (Nat.le_refl 8) h (bxB_len hv hf0.oks).1 hf0.oks) w0 hf0 hf1 hf2 hf3
  · exact dtextw_any a c ts ⟨a,c,ts⟩ (fun h=>absurd h hv) w0 hf0 hf1 hf2 hf3
def TxK (ts:List bW):Prop:=∀ t∈ts,t.ks.length≤2∧∀ p∈t.ks,p.tx.length≤400
theorem ksT_lt:∀ ks:List dO,(∀ p∈ks,p.tx.length≤400)→(xM ks).length≤401*ks.length
  | [],_=>Nat.zero_le _
  | x :: r, h => by
    have h1:=h x (List.mem_cons_self ..)
    have h2:=ksT_lt r (fun y hy=>h y (List.mem_cons_of_mem _ hy))
    show (([44]++x.tx)++xM r).length≤_
    simp only [List.length_append,List.length_cons,List.length_nil];omega
theorem bx_lt : ∀ (f : Nat) (s : Tq) (b : List UInt8) (s' : Tq), TxK s.ts → mP s.ts → bx f s = some (b, s') → b.length + 1100 * s'.ts.length ≤ 1100 * s.ts.length
  | 0,_,_,_,_,_,h=>by simp [bx] at h
  | f + 1, s, b, s', hq, ho, h => by
    unfold bx at h
    split at h
    · exact absurd h (by simp)
    rename_i hc
    have h0:0<s.ts.length:=by omega
    have hfd:s.fst.fw=true:=by
      cases e:s.fst.fw with
      | true=>rfl
      | false=>exact absurd (Or.inr e) hc
    have hF:=fw_iff hfd
    have hm:s.fst∈s.ts:=xAE h0
    have hg:TqL s s.go:=TqL.go h0
    have hgl:s.go.ts.length+1=s.ts.length:=by show s.ts.tail.length+1=_;rw [List.length_tail];omega
    obtain ⟨k2,kt⟩:=hq _ hm
    split at h
    · rename_i hk
      have hks:0<s.fst.ks.length:=by have:=hF.1 hk;omega
      have:=kt _ (nU hks)
      simp only [Option.some.injEq,Prod.mk.injEq] at h;rw [← h.1,← h.2]
      unfold nK;simp only [List.length_append,List.length_cons,List.length_nil];omega
    split at h
    · rename_i hk
      have h2:=hF.2.1 hk
      have:=ksT_lt s.fst.ks kt
      have h3:=kP (n:=s.fst.m.toNat) (by omega)
      simp only [Option.some.injEq,Prod.mk.injEq] at h;rw [← h.1,← h.2]
      unfold nY;simp only [List.length_append,List.length_cons,List.length_nil];omega
    split at h
    · exact absurd h (by simp)
    rename_i a s1 e1
    have ha:=bx_lt f _ _ _ (fun t ht=>hq t (hg.m t ht)) (fun t ht=>ho t (hg.m t ht)) e1
    have l1:=hg.trans (yS f _ _ _ e1)
    split at h
    · split at h
      · exact absurd h (by simp)
      · rename_i b2 s2 e2
        have hb:=bx_lt f _ _ _ (fun t ht=>hq t (l1.m t ht)) (fun t ht=>ho t (l1.m t ht)) e2
        simp only [Option.some.injEq,Prod.mk.injEq] at h;rw [← h.1,← h.2]
        unfold eiT;simp only [List.length_append,List.length_cons,List.length_nil];omega
    · split at h
      · have := arT_len (kd := s.fst.kd) (h := s.fst.h) (ho _ hm).1.nu
        simp only [Option.some.injEq,Prod.mk.injEq] at h;rw [← h.1,← h.2]
        unfold slT;simp only [List.length_append,List.length_cons,List.length_nil];omega
      · exact absurd h (by simp)
theorem bxB_lt {ts:List bW} (hv:xW ts=true) (ho:mP ts) (hs:Soft ts):(bxB ts).length+9≤16384:=by
  obtain ⟨hl,_,_,hk⟩:=vl_get hv
  have hq:TxK ts:=fun t ht=>⟨(hs t ht).1,fun p hp=>by
    have h1:=List.all_eq_true.1 hk t ht
    have h2:=List.all_eq_true.1 h1 p hp
    unfold dO.vp at h2
    simp only [Bool.and_eq_true,decide_eq_true_eq] at h2
    exact kpT_len ((ho t ht).2 p hp).ps h2.1⟩
  obtain ⟨s',h⟩:=bx_go hv none 0
  have:=bx_lt 8 _ _ _ hq ho h
  have hl2:=hl.2
  simp only at this
  omega
theorem smS_len (W:List UInt8):(smS W).length=8:=xAM W
theorem pr_text {B S:List UInt8} (hS:S=B++([35]++smS B)):S.length=B.length+9∧pW S=B∧gB S (S.length-9)=35∧S.drop (S.length-8)=smS B:=by
  have hl:S.length=B.length+9:=by rw [hS,List.length_append,List.length_append,smS_len];rfl
  refine ⟨hl,?_,?_,?_⟩
  · unfold pW
    rw [hl,Nat.add_sub_cancel,hS,List.take_left]
  · unfold gB
    rw [hl,Nat.add_sub_cancel,hS]
    simp
  · rw [hl,show B.length+9-8=B.length+1 by omega,hS,← List.drop_drop,List.drop_left];rfl
theorem tx_split {ts:List bW} (h:xN ts=0):xW ts=true∧(bxB ts).length+9≤16384∧wU ts=bxB ts++([35]++smS (bxB ts)):=by
  cases hv:xW ts with
  | false=>rw [(tx_bad hv).1] at h;exact absurd h (by decide)
  | true =>
    by_cases hl:16384<(bxB ts).length+9
    · rw [(tx_long hv hl).1] at h;exact absurd h (by decide)
    · exact ⟨rfl,by omega,(tx_ok hv hl).2⟩
theorem bk_bad {ts:List bW} (h:xN ts≠0) (ho:mP ts) (hs:Soft ts):xN ts=260∧xW ts=false:=by
  cases hv:xW ts with
  | false=>exact ⟨(tx_bad hv).1,rfl⟩
  | true=>exact absurd (tx_ok hv (Nat.not_lt.2 (bxB_lt hv ho hs))).1 h
theorem bk_go {ts:List bW} (h:xN ts=0) (ho:mP ts):prE (wU ts)=0∧prT (wU ts)=ts.map bW.er:=by
  obtain ⟨hv,hl,hS⟩:=tx_split h
  obtain ⟨l1,l2,l3,l4⟩:=pr_text hS
  have rb:=read_back hv ho
  have hh:=pr_0 (S:=wU ts) (us:=ts) (by omega) (by omega) l3 (by rw [l2];exact l4) (by rw [l2,rb]) (by rw [l2,rb]) (by rw [l2]) hv
  exact ⟨hh.1,hh.2.symm⟩
theorem bk_tx {ts us:List bW} (e:us.map bW.er=ts.map bW.er):xN us=xN ts∧wU us=wU ts:=by
  have hv:xW us=xW ts:=by rw [← vl_er us,e,vl_er]
  have hE:xN us=xN ts:=by unfold xN;rw [hv,bxB_er e]
  exact ⟨hE,by unfold wU;rw [hE,bxB_er e]⟩
theorem bk_rd {ts us:List bW} (h:xN ts=0) (ho:mP ts) (e:us.map bW.er=prT (wU ts)):ts.map bW.er=us.map bW.er:=(e.trans (bk_go h ho).2).symm
theorem cut_any (S W:List UInt8) (w:World):Calls Tryz.prog 83 #[.string (gY S),.string (gY W)] w (fun ε w'=>ε=.returned (.tuple #[.string (gY (Lib.trimPrefix S W)),.bool (Lib.hasPrefix S W)])∧Below w.heap.size w w'):=(cutS (gY S) (gY W) w).mono fun ε w' h=>⟨h.1,by rw [h.2];exact Below.refl _ _⟩
theorem rdreat_any (g:Nat) (L:List UInt8) (V:Value) (W:List UInt8) (w0:World) (hK:Knows [(g,(cL #[.string (gY L),V] 71))] w0) (hP:dL (fun b=>b∈([(g,(cL #[.string (gY L),V] 71))]:List (Nat × Obj)).map (·.1)) (fun _=>True) w0):Calls Tryz.prog 55 #[pt g,.string (gY W)] w0 (fun ε w'=>ε=.returned (.bool (Lib.hasPrefix L W))∧nN (fun b=>b∈([(g,(cL #[.string (gY L),V] 71))]:List (Nat × Obj)).map (·.1)) w0 w'∧Knows [(g,(cL #[.string (gY (Lib.trimPrefix L W)),V] 71))] w'):=by
 refine Calls.of_okW (n:=21) (F:=(fun _=>True)) [(g,(cL #[.string (gY L),V] 71))] Tryz.func55 rfl rfl rfl (by simp) hK (by simp) hP ?_
 refine jJ Tryz.f55 1 [0,1,4] [vF] ?_
 refine sS Tryz.f55 11 [0,4,5,6] [] (fun _=>let qa:Value:=.bool (Lib.hasPrefix L W);[pt g,pt g,pt g,.string (gY L),.string (gY W),.tuple #[.string (gY (Lib.trimPrefix L W)),qa],.tuple #[.string (gY (Lib.trimPrefix L W)),qa],.string (gY (Lib.trimPrefix L W)),qa,.string (gY (Lib.trimPrefix L W)),qa]) (fun _=>[]) (cR [[],[],[],[0],[]]<|cC (fun _ w=>cut_any L W w)<|jE [[],[],[],[],[]]) (fun _=>?_)
 refine sS Tryz.f55 5 [4,6] [] (fun _=>[pt g,.string (gY (Lib.trimPrefix L W)),pt g,pt g,undef]) (fun _=>[(4,(bD 0 g (cL #[.string (gY (Lib.trimPrefix L W)),V] 71)))]) (jE [[],[],[],[],[0]]) (fun _=>?_)
 refine jJ Tryz.f55 2 [4] [.bool (Lib.hasPrefix L W),.bool (Lib.hasPrefix L W)] (aF ?_)
 exact mR (v:=(.bool (Lib.hasPrefix L W))) (fun _ hS=>⟨rfl,hS.below,hS.knows [1]⟩)
theorem parse_any (S:List UInt8) (u:Nat) (h:Lib.parseUintB 32 S=.ok u) (hl:S.length≤1000000000) (w:World):Calls Tryz.prog 82 #[.string (gY S),.int .i64 10,.int .i64 32] w (fun ε w'=>ε=.returned (.tuple #[.int .u64 ((u:Nat):Int),.nilIface])∧Below w.heap.size w w'):=(parseS (gY S) (by show S.length≤_;omega) u h w).mono fun ε w' h=>⟨h.1,by rcases h.2 with e | e;rw [e];exact Below.refl _ _;rw [e];exact Lib.bytesWorld_below _ _ _⟩
theorem rdrnumber_any (g:Nat) (L:List UInt8) (V:Value) (u:Nat) (hl:L.length≤1000000000) (hp:Lib.parseUintB 32 (L.take (xC L))=.ok u) (w0:World) (hK:Knows [(g,(cL #[.string (gY L),V] 71))] w0) (hP:dL (fun b=>b∈([(g,(cL #[.string (gY L),V] 71))]:List (Nat × Obj)).map (·.1)) (fun _=>True) w0):Calls Tryz.prog 54 #[pt g] w0 (fun ε w'=>ε=.returned (.tuple #[vu u,vT])∧nN (fun b=>b∈([(g,(cL #[.string (gY L),V] 71))]:List (Nat × Obj)).map (·.1)) w0 w'∧Knows [(g,(cL #[.string (gY (L.drop (xC L))),V] 71))] w'):=by
 refine Calls.of_okW (n:=57) (F:=(fun _=>True)) [(g,(cL #[.string (gY L),V] 71))] Tryz.func54 rfl rfl rfl (by simp) hK (by simp) hP ?_
 refine jJ Tryz.f54 2 [0,2,3] [.int .u32 0,vF] (jJ Tryz.f54 1 [0,2,3,4] [vi 0] (aB (aI ?_)))
 refine oL (σ:=Nat) (fun i=>[(0,(pt g)),(2,(.int .u32 0)),(3,vF),(4,(vn i))]) (fun _=>[(g,(cL #[.string (gY L),V] 71))]) (fun i=>L.length-i)
   (fun i=>(i≤L.length)∧(xC (L.drop i)+i=xC L)) 0 (⟨Nat.zero_le _,rfl⟩) [] ?_
 rintro i ⟨hi,hr⟩
 change Ok Tryz.prog _ _ 57 [(0,(pt g)),(2,(.int .u32 0)),(3,vF),(4,(vn i))] _ [(g,(cL #[.string (gY L),V] 71))] (fun _=>True)
 refine aB ?_
 rcases Bool.eq_false_or_eq_true (decide (((i:Nat):Int)<((L.length:Nat):Int))) with hb1 | hb1
 ·
  rcases Bool.eq_false_or_eq_true (decide (48≤((gB L i:Nat):Int))) with hb2 | hb2
  ·
   refine sS Tryz.f54 25 [0,2,3,4,31] [] (fun _=>let qa:Value:=.bool (decide (((gB L i:Nat):Int)≤57));[vn i,pt g,pt g,pt g,.string (gY L),vn L.length,vT,vT,pt g,pt g,pt g,.string (gY L),vn i,vy (gB L i),vT,vT,vT,pt g,pt g,pt g,.string (gY L),vn i,vy (gB L i),qa,qa]) (fun _=>[]) (cR [[],[],[],[],[0],[]]<|cA (fun _=>vT) (fun _=>congrArg Value.bool hb1)<|cR [[],[],[],[],[0],[]]<|cX (jS (fun _=>Instr.index 9 (.string (gY L)) (vn i)) (fun _=>(vy (gB L i))) (fun _ w=>vI (S:=L) Tryz.underlying9 (show ((i:Nat):Int)=((i:Nat):Int) from rfl) (show i<L.length from (by have:=yT hb1;have:=yT hb2;omega)) w))<|cA (fun _=>vT) (fun _=>congrArg Value.bool hb2)<|cR [[],[],[],[],[],[0],[]]<|cX (jS (fun _=>Instr.index 9 (.string (gY L)) (vn i)) (fun _=>(vy (gB L i))) (fun _ w=>vI (S:=L) Tryz.underlying9 (show ((i:Nat):Int)=((i:Nat):Int) from rfl) (show i<L.length from (by have:=yT hb1;have:=yT hb2;omega)) w))<|jE [[],[]]) (fun _=>?_)
   refine oC (decide (((gB L i:Nat):Int)≤57)) (fun hb3=>?_) (fun hb3=>?_)
   ·
    rw [hb3]
    have:=yT hb3
    refine aG (aA (aI ?_))
    refine rS Tryz.f54 3 [0,2,3,4] [] (fun _=>[vn i,vn (i+1),vn (i+1)]) (fun _=>[]) (cR [[]]<|jW (fun ρ=>(((i:Nat):Int)+1)) (fun _=>(i+1)) (fun _=>(aW i 1 (by have:=yT hb1;have:=yT hb2;omega)))<|jE [[]]) (fun _=>?_)
    refine aJ ?_
    exact mN (i+1) (by show L.length-(i+1)<L.length-i;have:=yT hb1;have:=yT hb2;omega) (⟨(by have:=yT hb1;have:=yT hb2;omega),dgN_next (by have:=yT hb1;have:=yT hb2;omega) hb2 hb3 hr⟩) []
   rw [hb3]
   have:=yF hb3
   refine bF (aN (aN (aT (aA ?_))))
   refine sS Tryz.f54 12 [0,2,3,4,5,6] [] (fun _=>[pt g,pt g,pt g,.string (gY L),vn i,.string (gY (L.take i)),.tuple #[vx u,.nilIface],.tuple #[vx u,.nilIface],vx u,.nilIface,vx u,.nilIface]) (fun _=>[]) (cR [[],[],[],[0],[]]<|cX (jS (fun _=>Instr.sliceAt 9 (.string (gY L)) none (some (vn i)) none) (fun _=>(.string (gY (L.take i)))) (fun _ w=>wK (S:=L) Tryz.underlying9 (n:=i) rfl (by have:=yT hb1;have:=yT hb2;omega) w))<|cC (fun _ w=>parse_any (L.take i) u (by rw [(dgN_eB (by have:=yT hb1;have:=yT hb2;omega) hb3 hr)];exact hp) (by rw [List.length_take];omega) w)<|jE [[],[],[],[],[]]) (fun _=>?_)
   refine aB (jJ Tryz.f54 2 [0,2,3,4,5,45] [.nilIface,vF] ?_)
   refine oN ?_
   refine aG (aA ?_)
   refine sS Tryz.f54 10 [2,3,5] [] (fun _=>[pt g,pt g,pt g,pt g,.string (gY L),vn i,.string (gY (L.drop i)),pt g,pt g,undef]) (fun _=>[(9,(bD 0 g (cL #[.string (gY (L.drop i)),V] 71)))]) (cR [[],[],[],[],[0],[]]<|cX (jS (fun _=>Instr.sliceAt 9 (.string (gY L)) (some (vn i)) none none) (fun _=>(.string (gY (L.drop i)))) (fun _ w=>yK (S:=L) Tryz.underlying9 (n:=i) rfl (by have:=yT hb1;have:=yT hb2;omega) w))<|jE [[],[],[0]]) (fun _=>?_)
   refine sS Tryz.f54 4 [2,3] [] (fun _=>[vx u,vu u,vu u,vT]) (fun _=>[]) (cR [[]]<|cA (fun _=>(vu u)) (fun _=>jN (txW (Lib.parseUintB_le hp)))<|jE [[],[]]) (fun _=>?_)
   refine aF ?_
   exact mR (v:=(.tuple #[vu u,vT])) (fun _ hS=>⟨rfl,hS.below,(by rw [← (dgN_eB (by have:=yT hb1;have:=yT hb2;omega) hb3 hr)];exact hS.knows [1])⟩)
  refine sS Tryz.f54 25 [0,2,3,4,31] [] (fun _=>[vn i,pt g,pt g,pt g,.string (gY L),vn L.length,vT,vT,pt g,pt g,pt g,.string (gY L),vn i,vy (gB L i),vF,vF,vF,undef,undef,undef,undef,undef,undef,undef,vF]) (fun _=>[]) (cR [[],[],[],[],[0],[]]<|cA (fun _=>vT) (fun _=>congrArg Value.bool hb1)<|cR [[],[],[],[],[0],[]]<|cX (jS (fun _=>Instr.index 9 (.string (gY L)) (vn i)) (fun _=>(vy (gB L i))) (fun _ w=>vI (S:=L) Tryz.underlying9 (show ((i:Nat):Int)=((i:Nat):Int) from rfl) (show i<L.length from (by have:=yT hb1;have:=yF hb2;omega)) w))<|cA (fun _=>vF) (fun _=>congrArg Value.bool hb2)<|jE [[],[],[],[],[],[],[],[],[],[]]) (fun _=>?_)
  refine oN ?_
  refine bF (aN (aN (aT (aA ?_))))
  refine sS Tryz.f54 12 [0,2,3,4,5,6] [] (fun _=>[pt g,pt g,pt g,.string (gY L),vn i,.string (gY (L.take i)),.tuple #[vx u,.nilIface],.tuple #[vx u,.nilIface],vx u,.nilIface,vx u,.nilIface]) (fun _=>[]) (cR [[],[],[],[0],[]]<|cX (jS (fun _=>Instr.sliceAt 9 (.string (gY L)) none (some (vn i)) none) (fun _=>(.string (gY (L.take i)))) (fun _ w=>wK (S:=L) Tryz.underlying9 (n:=i) rfl (by have:=yT hb1;have:=yF hb2;omega) w))<|cC (fun _ w=>parse_any (L.take i) u (by rw [(dgN_eA (by have:=yT hb1;have:=yF hb2;omega) hb2 hr)];exact hp) (by rw [List.length_take];omega) w)<|jE [[],[],[],[],[]]) (fun _=>?_)
  refine aB (jJ Tryz.f54 2 [0,2,3,4,5,45] [.nilIface,vF] ?_)
  refine oN ?_
  refine aG (aA ?_)
  refine sS Tryz.f54 10 [2,3,5] [] (fun _=>[pt g,pt g,pt g,pt g,.string (gY L),vn i,.string (gY (L.drop i)),pt g,pt g,undef]) (fun _=>[(9,(bD 0 g (cL #[.string (gY (L.drop i)),V] 71)))]) (cR [[],[],[],[],[0],[]]<|cX (jS (fun _=>Instr.sliceAt 9 (.string (gY L)) (some (vn i)) none none) (fun _=>(.string (gY (L.drop i)))) (fun _ w=>yK (S:=L) Tryz.underlying9 (n:=i) rfl (by have:=yT hb1;have:=yF hb2;omega) w))<|jE [[],[],[0]]) (fun _=>?_)
  refine sS Tryz.f54 4 [2,3] [] (fun _=>[vx u,vu u,vu u,vT]) (fun _=>[]) (cR [[]]<|cA (fun _=>(vu u)) (fun _=>jN (txW (Lib.parseUintB_le hp)))<|jE [[],[]]) (fun _=>?_)
  refine aF ?_
  exact mR (v:=(.tuple #[vu u,vT])) (fun _ hS=>⟨rfl,hS.below,(by rw [← (dgN_eA (by have:=yT hb1;have:=yF hb2;omega) hb2 hr)];exact hS.knows [1])⟩)
 refine sS Tryz.f54 25 [0,2,3,4,31] [] (fun _=>[vn i,pt g,pt g,pt g,.string (gY L),vn L.length,vF,vF,undef,undef,undef,undef,undef,undef,undef,vF,vF,undef,undef,undef,undef,undef,undef,undef,vF]) (fun _=>[]) (cR [[],[],[],[],[0],[]]<|cA (fun _=>vF) (fun _=>congrArg Value.bool hb1)<|jE [[],[],[],[],[],[],[],[],[],[],[],[],[],[],[],[],[],[]]) (fun _=>?_)
 refine oN ?_
 refine bF (aN (aN (aT (aA ?_))))
 refine sS Tryz.f54 12 [0,2,3,4,5,6] [] (fun _=>[pt g,pt g,pt g,.string (gY L),vn i,.string (gY (L.take i)),.tuple #[vx u,.nilIface],.tuple #[vx u,.nilIface],vx u,.nilIface,vx u,.nilIface]) (fun _=>[]) (cR [[],[],[],[0],[]]<|cX (jS (fun _=>Instr.sliceAt 9 (.string (gY L)) none (some (vn i)) none) (fun _=>(.string (gY (L.take i)))) (fun _ w=>wK (S:=L) Tryz.underlying9 (n:=i) rfl (by have:=yF hb1;omega) w))<|cC (fun _ w=>parse_any (L.take i) u (by rw [(dgN_e0 (by have:=yF hb1;omega) hr)];exact hp) (by rw [List.length_take];omega) w)<|jE [[],[],[],[],[]]) (fun _=>?_)
 refine aB (jJ Tryz.f54 2 [0,2,3,4,5,45] [.nilIface,vF] ?_)
 refine oN ?_
 refine aG (aA ?_)
 refine sS Tryz.f54 10 [2,3,5] [] (fun _=>[pt g,pt g,pt g,pt g,.string (gY L),vn i,.string (gY (L.drop i)),pt g,pt g,undef]) (fun _=>[(9,(bD 0 g (cL #[.string (gY (L.drop i)),V] 71)))]) (cR [[],[],[],[],[0],[]]<|cX (jS (fun _=>Instr.sliceAt 9 (.string (gY L)) (some (vn i)) none none) (fun _=>(.string (gY (L.drop i)))) (fun _ w=>yK (S:=L) Tryz.underlying9 (n:=i) rfl (by have:=yF hb1;omega) w))<|jE [[],[],[0]]) (fun _=>?_)
 refine sS Tryz.f54 4 [2,3] [] (fun _=>[vx u,vu u,vu u,vT]) (fun _=>[]) (cR [[]]<|cA (fun _=>(vu u)) (fun _=>jN (txW (Lib.parseUintB_le hp)))<|jE [[],[]]) (fun _=>?_)
 refine aF ?_
 exact mR (v:=(.tuple #[vu u,vT])) (fun _ hS=>⟨rfl,hS.below,(by rw [← (dgN_e0 (by have:=yF hb1;omega) hr)];exact hS.knows [1])⟩)
theorem unhex_any (S:List UInt8) (w0:World):Calls Tryz.prog 84 #[.string (gY S)] w0 (fun ε w'=>∃ α κ,ε=.returned (.tuple #[.slice α (uhX S).length κ,vi (uhE S)])∧jG w0 w'∧Fs w0 w' α κ (uhX S)):=by
 refine Calls.of_ok (n:=47) (F:=(fun _=>True)) Tryz.func84 rfl rfl rfl (by simp) jT ?_
 refine jJ Tryz.f84 2 [0,2,3] [vz,vi 0] (aB (jJ Tryz.f84 3 [0,2,3,10] [.string (gY S),vn S.length,.bool (decide (400000<((S.length:Nat):Int)))] ?_))
 refine oC (decide (400000<((S.length:Nat):Int))) (fun hb1=>?_) (fun hb1=>?_)
 ·
  rw [hb1]
  refine jJ Tryz.f84 2 [0,2,3] [vz,vi 4] (aF (aC (mD [(0,(.string (gY S))),(2,vz),(3,(vi 4))] [] ?_)))
  exact mR (v:=(.tuple #[vz,vi 4])) (fun _ hS=>⟨none,0,congrArg Ending.returned (uh_v (xs:=[]) (uh4 (by have:=yT hb1;omega))),hS.bel,dU (uh_x (uh4 (by have:=yT hb1;omega))) Fs.nil⟩)
 rw [hb1]
 have:=yF hb1
 refine aG (aA (aB ?_))
 refine sS Tryz.f84 4 [0,2,3,14] [] (fun _=>[.string (gY S),vn S.length,vn (S.length%2),.bool (((S.length%2:Nat):Int) != 0)]) (fun _=>[]) (cR [[],[]]<|cB (a:=fun ρ=>(vn S.length)) (b:=fun ρ=>(vi 2)) (v:=fun ρ=>(vn (S.length%2))) .rem 3 (fun _ w=>zT (k:=.i64) (n:=S.length) (d:=2) (by decide) w)<|jE [[]]) (fun _=>?_)
 refine oC (((S.length%2:Nat):Int) != 0) (fun hb2=>?_) (fun hb2=>?_)
 ·
  rw [hb2]
  refine jJ Tryz.f84 2 [0,2,3] [vz,vi 7] (aF (aC (mD [(0,(.string (gY S))),(2,vz),(3,(vi 7))] [] ?_)))
  exact mR (v:=(.tuple #[vz,vi 7])) (fun _ hS=>⟨none,0,congrArg Ending.returned (uh_v (xs:=[]) (uh7 (by have:=xAU hb2;omega) (by have:=xAU hb2;omega))),hS.bel,dU (uh_x (uh7 (by have:=xAU hb2;omega) (by have:=xAU hb2;omega))) Fs.nil⟩)
 rw [hb2]
 refine aG (aA ?_)
 refine sS Tryz.f84 5 [0,2,3,4] [] (fun ρ=>let qa:=vs (nb ρ 3) (List.replicate (S.length / 2) (0:UInt8)).length (S.length / 2);[.string (gY S),vn S.length,vn (S.length / 2),qa,qa]) (fun ρ=>[(3,(nw ρ 3 (cL (zB (S.length / 2)) 5)))]) (cR [[],[]]<|cB (a:=fun ρ=>(vn S.length)) (b:=fun ρ=>(vi 2)) (v:=fun ρ=>(vn (S.length / 2))) .quo 3 (fun _ w=>yP (n:=S.length) (d:=2) (by decide) (by have:=o5 hb2;omega) w)<|cX (uB _ (fun _=>do pure (Next.value (← Instr.makeSlice 35 (vn (S.length / 2)) (vn (S.length / 2))))) (fun _ ζ=>(vs (ζ.headD 0) (List.replicate (S.length / 2) (0:UInt8)).length (S.length / 2))) (fun _ _=>(cL (zB (S.length / 2)) 5)) (fun _ _=>(by kernel_rfl)) (fun _=>(by kernel_rfl)) (fun _ _=>trivial) (fun _ _ w _=>mM Tryz.underlying35 nH (List.replicate (S.length / 2) (0:UInt8)) ((rfl).trans (by rw [List.length_replicate])) (rfl) (Nat.le_of_eq (List.length_replicate ..)) (by have:=o5 hb2;omega) w))<|jE [[]]) (fun ρ6=>?_)
 refine aB (jJ Tryz.f84 3 [0,2,3,4,20,21] [.string (gY S),vn S.length,vi 0] (aI ?_))
 refine oL (σ:=Nat × (Array Value)) (fun ⟨i,_⟩=>[(0,(.string (gY S))),(4,(vs (nb ρ6 3) (List.replicate (S.length / 2) (0:UInt8)).length (S.length / 2))),(20,(vn S.length)),(21,(vn i))]) (fun ⟨_,C⟩=>[(nb ρ6 3,(cL C 5))]) (fun ⟨i,_⟩=>S.length-i)
   (fun ⟨i,C⟩=>(i≤S.length)∧(∀ j,j<i→dgB (gB S j)=true)∧(C=unC S i)) (0,zB (S.length / 2)) (⟨Nat.zero_le _,fun j hj=>absurd hj (Nat.not_lt_zero j),(unC_zero S).symm⟩) [] ?_
 rintro ⟨i,C⟩ ⟨hi,hD,hC⟩
 change Ok Tryz.prog _ _ 47 [(0,(.string (gY S))),(4,(vs (nb ρ6 3) (List.replicate (S.length / 2) (0:UInt8)).length (S.length / 2))),(20,(vn S.length)),(21,(vn i))] _ [(nb ρ6 3,(cL C 5))] (fun _=>True)
 refine jJ Tryz.f84 1 [0,4,20,21,22] [.bool (decide (((i:Nat):Int)<((S.length:Nat):Int)))] (aB ?_)
 refine oC (decide (((i:Nat):Int)<((S.length:Nat):Int))) (fun hb3=>?_) (fun hb3=>?_)
 ·
  rw [hb3]
  have:=yT hb3
  refine aG (aA (aB (aI (jJ Tryz.f84 2 [0,4,5,20,21] [vn i,vn i] ?_))))
  refine sS Tryz.f84 9 [0,4,5,6,7,20,21] [] (fun _=>[.string (gY S),vn i,vy (gB S i),.tuple #[vy (dg (gB S i)),.bool (dgB (gB S i))],.tuple #[vy (dg (gB S i)),.bool (dgB (gB S i))],vy (dg (gB S i)),.bool (dgB (gB S i)),vy (dg (gB S i)),.bool (dgB (gB S i))]) (fun _=>[]) (cR [[],[]]<|cX (jS (fun _=>Instr.index 9 (.string (gY S)) (vn i)) (fun _=>(vy (gB S i))) (fun _ w=>vI (S:=S) Tryz.underlying9 (show ((i:Nat):Int)=((i:Nat):Int) from rfl) (show i<S.length from (by have:=o5 hb2;omega)) w))<|cC (fun _ w=>digit_any (gB S i) (by have:=o5 hb2;have:=iD S i;omega) w)<|jE [[],[],[],[],[]]) (fun _=>?_)
  refine aB (jJ Tryz.f84 2 [0,4,5,6,20,21,32] [.bool (dgB (gB S i)),.bool (!(dgB (gB S i)))] ?_)
  refine oC (!(dgB (gB S i))) (fun hb4=>?_) (fun hb4=>?_)
  ·
   rw [hb4]
   refine jJ Tryz.f84 2 [0,2,3,4,5,6,20,21] [vz,vi 7] (aF (aC (aP (aC (aC (aP (aC (mD [(0,(.string (gY S))),(2,vz),(3,(vi 7)),(4,(vs (nb ρ6 3) (List.replicate (S.length / 2) (0:UInt8)).length (S.length / 2))),(5,(vn i)),(6,(vy (dg (gB S i)))),(20,(vn S.length)),(21,(vn i))] [(nb ρ6 3,(cL C 5))] ?_))))))))
   exact mR (v:=(.tuple #[vz,vi 7])) (fun _ hS=>⟨none,0,congrArg Ending.returned (uh_v (xs:=[]) (uh_bad (by have:=o5 hb2;omega) (by have:=o5 hb2;omega) (by have:=o5 hb2;omega) (dF hb4))),hS.bel,dU (uh_x (uh_bad (by have:=o5 hb2;omega) (by have:=o5 hb2;omega) (by have:=o5 hb2;omega) (dF hb4))) Fs.nil⟩)
  rw [hb4]
  refine aG (aA ?_)
  refine rS Tryz.f84 13 [0,4,20,21] [] (fun _=>let qa:=vs (nb ρ6 3) (List.replicate (S.length / 2) (0:UInt8)).length (S.length / 2);[qa,vn i,vn (i / 2),qa,vn i,vn (i / 2),jp (nb ρ6 3) (i / 2),vy (un1 S i (i / 2)),vy (un1 S i (i / 2)*16),vy (dg (gB S i)),vy (unV S i),jp (nb ρ6 3) (i / 2),undef]) (fun _=>[(12,(bD 0 (nb ρ6 3) (cL (C.setIfInBounds (i / 2) (vy (unV S i))) 5)))]) (cR [[],[]]<|cB (a:=fun ρ=>(vn i)) (b:=fun ρ=>(vi 2)) (v:=fun ρ=>(vn (i / 2))) .quo 3 (fun _ w=>yP (n:=i) (d:=2) (by decide) (by have:=o5 hb2;omega) w)<|cR [[],[]]<|cB (a:=fun ρ=>(vn i)) (b:=fun ρ=>(vi 2)) (v:=fun ρ=>(vn (i / 2))) .quo 3 (fun _ w=>yP (n:=i) (d:=2) (by decide) (by have:=o5 hb2;omega) w)<|cX (qS (fun _ w=>uI (g:=nb ρ6 3) (c:=S.length / 2) (k:=.i64) Tryz.underlying35 nH (show ((i / 2:Nat):Int)=(((i / 2):Nat):Int) from rfl) (show (i / 2)<(List.replicate (S.length / 2) (0:UInt8)).length from (by rw [List.length_replicate];have:=o5 hb2;omega)) w))<|cX (kG _ 0 5 (fun _=>nb ρ6 3) (fun _=>i / 2) (fun _=>C) 5 (0,0) (fun _=>(vy (un1 S i (i / 2)))) (fun _=>by kernel_rfl) Tryz.isAgg5 (fun _=>(by rw [hC];exact unC_get (by have:=o5 hb2;omega))))<|cB (a:=fun ρ=>(vy (un1 S i (i / 2)))) (b:=fun ρ=>(.int .u64 4)) (v:=fun ρ=>(vy (un1 S i (i / 2)*16))) .shl 5 (fun _ w=>run_un4 S i w)<|cR [[]]<|cA (fun _=>(vy (unV S i))) (fun _=>congrArg (Value.int .u8) (un_or i))<|cX (qS (fun _ w=>uI (g:=nb ρ6 3) (c:=S.length / 2) (k:=.i64) Tryz.underlying35 nH (show ((i / 2:Nat):Int)=(((i / 2):Nat):Int) from rfl) (show (i / 2)<(List.replicate (S.length / 2) (0:UInt8)).length from (by rw [List.length_replicate];have:=o5 hb2;omega)) w))<|cX (qG _ 0 5 (fun _=>nb ρ6 3) (fun _=>i / 2) (fun _=>C) (fun _=>(C.setIfInBounds (i / 2) (vy (unV S i)))) 5 (fun _=>(vy (unV S i))) (fun _=>by kernel_rfl) Tryz.sizeOf5 (fun _=>rfl) (fun _=>(by rw [hC,xBY];have:=o5 hb2;omega)) (fun _=>rfl))<|cN) (fun _=>?_)
  refine aJ (aA ?_)
  refine rS Tryz.f84 2 [0,4,20,21] [] (fun _=>[vn (i+1),vn (i+1)]) (fun _=>[]) (jW (fun ρ=>(((i:Nat):Int)+1)) (fun _=>(i+1)) (fun _=>(aW i 1 (by have:=o5 hb2;omega)))<|jE [[]]) (fun _=>?_)
  exact mN (i+1,C.setIfInBounds (i / 2) (vy (unV S i))) (by show S.length-(i+1)<S.length-i;have:=o5 hb2;omega) (⟨(by have:=o5 hb2;omega),dg_next hD (aV hb4),by rw [hC];exact unC_set (by have:=o5 hb2;omega)⟩) []
 rw [hb3]
 have:=yF hb3
 refine bF (aN (aN (aT (aA (jJ Tryz.f84 3 [2,3] (let qa:=vs (nb ρ6 3) (List.replicate (S.length / 2) (0:UInt8)).length (S.length / 2);[qa,qa,vi 0]) (aF (mD [(2,(vs (nb ρ6 3) (List.replicate (S.length / 2) (0:UInt8)).length (S.length / 2))),(3,(vi 0))] [(nb ρ6 3,(cL C 5))] ?_)))))))
 exact mR (v:=(.tuple #[vs (nb ρ6 3) (List.replicate (S.length / 2) (0:UInt8)).length (S.length / 2),vi 0])) (fun _ hS=>⟨some ⟨nb ρ6 3,0,none⟩,S.length / 2,congrArg Ending.returned (by rw [un_row (i:=i)];exact uh_v (uh_ok (by have:=o5 hb2;omega) (by have:=o5 hb2;omega) (by have:=o5 hb2;omega) hD (un_end (by have:=o5 hb2;omega) (by have:=o5 hb2;omega)))),hS.bel,dU (uh_x (uh_ok (by have:=o5 hb2;omega) (by have:=o5 hb2;omega) (by have:=o5 hb2;omega) hD (un_end (by have:=o5 hb2;omega) (by have:=o5 hb2;omega)))) (hS.fresh (.head _) (by rw [hC];exact Hd.all _) (Nat.le_of_eq (uQ S i)) (by rw [uQ];have:=o5 hb2;omega))⟩)
end Go.Proofs.YtegagmoldjiaaaaGreatDoor
