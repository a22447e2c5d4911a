/-
  What this statement needs, part 4: the texts of it, one behind the other.
-/
import Derived.Test.YtahoheofpggopaaGreatDoorBase3
import Derived.ProofKit
import Derived.OpenShut
import Derived.Test.YtahoheofpggopaaGreatDoorChecked
import Derived.SizedLaws
import Derived.ChangeSlices
import Derived.ChangeMaps5
import Derived.Test.YtahoheofpggopaaGreatDoorRows
import Derived.LaidMore
import Derived.LaidHandle
import Derived.MakeChecks
import Derived.Lib.LaidTab
import Derived.Deep.Slices
set_option maxRecDepth 100000
namespace Go.Proofs.YtahoheofpggopaaGreatDoor
open Go Go.RowKit
def mkO (s:Mk):Obj:=(.cells #[.slice s.ta s.ts.length s.tc,.slice s.ka s.ns.length s.kc] 113 (0,0))
def NextC (g:Nat) (s:Mk) (b:List UInt8) (s':Mk):Prop:=∀ w0:World,Knows [(g,mkO s)] w0→dL (fun x=>x∈([(g,mkO s)]:List (Nat × Obj)).map (·.1)) (fun w=>bM w s.ta s.tc s.ts∧Us w s.ka s.kc s.ns∧True) w0→Calls Tryz.prog 80 #[pt g] w0 (fun ε w'=>∃ α κ,ε=.returned (.tuple #[.slice α b.length κ,.int .i64 0])∧nN (fun b=>b∈([(g,mkO s)]:List (Nat × Obj)).map (·.1)) w0 w'∧Knows [(g,mkO s')] w'∧Fs w0 w' α κ b)
theorem next1_any (g:Nat) (s:Mk) (hk:s.fst.kd=1) (hc:s.can=true) (_ho:mP s.ts) (hU:∀ n∈s.ns,n<M) (w0:World) (hK:Knows [(g,(cL #[.slice s.ta s.ts.length s.tc,.slice s.ka s.ns.length s.kc] 113))] w0) (hP:dL (fun b=>b∈([(g,(cL #[.slice s.ta s.ts.length s.tc,.slice s.ka s.ns.length s.kc] 113))]:List (Nat × Obj)).map (·.1)) (fun w=>bM w s.ta s.tc s.ts∧Us w s.ka s.kc s.ns∧True) w0):Calls Tryz.prog 80 #[pt g] w0 (fun ε w'=>∃ α κ,ε=.returned (.tuple #[.slice α (sgB (s.ns.getD 0 0)).length κ,.int .i64 0])∧nN (fun b=>b∈([(g,(cL #[.slice s.ta s.ts.length s.tc,.slice s.ka s.ns.length s.kc] 113))]:List (Nat × Obj)).map (·.1)) w0 w'∧Knows [(g,(cL #[.slice s.go.ta s.go.ts.length s.go.tc,.slice s.go.ka s.go.ns.length s.go.kc] 113))] w'∧Fs w0 w' α κ (sgB (s.ns.getD 0 0))):=by
 refine Calls.of_okW (n:=97) (F:=(fun w=>bM w s.ta s.tc s.ts∧Us w s.ka s.kc s.ns∧True)) [(g,(cL #[.slice s.ta s.ts.length s.tc,.slice s.ka s.ns.length s.kc] 113))] Tryz.func80 rfl rfl rfl (by simp) hK (by simp) hP ?_
 refine jJ Tryz.f80 2 [0,2,3] [vz,vi 0] ?_
 refine sS Tryz.f80 8 [0,2,3,4] [] (fun ρ=>[pt g,pt g,pt g,.slice s.ta s.ts.length s.tc,.pointer (fK s.ta (0*36)),.agg (bW.row (gT s.ts 0)),pt (nb ρ 6),undef]) (fun ρ=>[(6,(nw ρ 6 (cL (iC 0 0 0 0 vz) 60))),(7,(bD 49 (nb ρ 6) (cL (bW.row (gT s.ts 0)) 60)))]) (cR [[],[],[],[0]]<|cX (qF (fun _ _ _ hG=>bM.idx (k:=.i64) Tryz.underlying24 Tryz.sizeOf60 hG.fn.1 rfl (show (0:Int)=((0:Nat):Int) from rfl) (show 0<s.ts.length from eX hc)))<|cX (qF (fun _ _ _ hG=>bM.ldA (i:=0) Tryz.isAgg60 Tryz.sizeOf60 hG.fn.1 (show 0<s.ts.length from eX hc)))<|jE [[],[49]]) (fun ρ2=>?_)
 refine iZ Tryz.f80 9 [0,2,3,4] [] (fun _=>[pt g,pt g,pt g,pt g,.slice s.ta s.ts.length s.tc,.slice (jA s.ta s.tc 1 36) s.ts.tail.length (s.tc-1),pt g,pt g,undef]) (fun _=>[(8,(bD 0 g (cL #[.slice (jA s.ta s.tc 1 36) s.ts.tail.length (s.tc-1),.slice s.ka s.ns.length s.kc] 113)))]) (fun _=>[(5,fun w=>bM w (jA s.ta s.tc 1 36) (s.tc-1) s.ts.tail)]) (fun _=>(fun w=>bM w s.ta s.tc s.ts∧Us w s.ka s.kc s.ns∧bM w (jA s.ta s.tc 1 36) (s.tc-1) s.ts.tail∧True)) (fun _=>True) (fun _ _ hF hf=>⟨⟨hF.1,hF.2.1,hf 5,trivial⟩,trivial⟩) (cR [[],[],[],[],[0]]<|cX (jF (fun _=>Instr.sliceAt 24 (.slice s.ta s.ts.length s.tc) (some (vi 1)) none none) (fun _=>(.slice (jA s.ta s.tc 1 36) s.ts.tail.length (s.tc-1))) (fun _ _ _ hG=>fP (k:=1) Tryz.underlying24 Tryz.sizeOf60 rfl (jI (rfl)) (eX hc) hG.fn.1.le (by rw [List.length_tail])) (fun _ _ w hG=>hG.facts0.mono (fun _ hF=>hF.1.tail (eX hc))))<|jE [[],[],[0]]) (fun _ _=>?_)
 refine sDf Tryz.f80 [0,1,3,7,0,16,48,127,255] 9 [0,2,3,4,5] [] (fun _=>let qa:Value:=.slice s.ka (s.ns.take (gT s.ts 0).ks.length).length s.kc;[pt g,pt g,jp g 1,.slice s.ka s.ns.length s.kc,jp (nb ρ2 6) 35,.slice (gT s.ts 0).ka (gT s.ts 0).ks.length (gT s.ts 0).kc,vn (gT s.ts 0).ks.length,qa,qa]) (fun _=>[]) (fun _=>[(7,fun w=>Us w s.ka s.kc (s.ns.take (gT s.ts 0).ks.length))]) (fun _=>(fun w=>bM w s.ta s.tc s.ts∧Us w s.ka s.kc s.ns∧bM w (jA s.ta s.tc 1 36) (s.tc-1) s.ts.tail∧Us w s.ka s.kc (s.ns.take (gT s.ts 0).ks.length)∧True)) (fun _=>True) (fun _ _ hF hf=>⟨⟨hF.1,hF.2.1,hF.2.2.1,hf 7,trivial⟩,trivial⟩) (cR [[],[],[],[0],[],[1],[]]<|cX (jF (fun _=>Instr.sliceAt 80 (.slice s.ka s.ns.length s.kc) none (some (vn (gT s.ts 0).ks.length)) none) (fun _=>(.slice s.ka (s.ns.take (gT s.ts 0).ks.length).length s.kc)) (fun _ _ _ hG=>pY (k:=(gT s.ts 0).ks.length) Tryz.underlying80 Tryz.sizeOf64 rfl (jI (rfl)) (fE hc) hG.fn.2.1.le (by rw [List.length_take];exact (Nat.min_eq_left (fE hc)).symm)) (fun _ _ w hG=>hG.facts0.mono (fun _ hF=>hF.2.1.take (gT s.ts 0).ks.length)))<|jE [[]]) (fun _ _=>?_)
 refine sDf Tryz.f80 [0,0,2,6,14,0,32,96,254,511,1023,2047] 12 [0,2,3,4,5] [] (fun _=>[pt g,pt g,pt g,jp g 1,.slice s.ka s.ns.length s.kc,jp (nb ρ2 6) 35,.slice (gT s.ts 0).ka (gT s.ts 0).ks.length (gT s.ts 0).kc,vn (gT s.ts 0).ks.length,.slice (jA s.ka s.kc (gT s.ts 0).ks.length 4) (s.ns.drop (gT s.ts 0).ks.length).length (s.kc-(gT s.ts 0).ks.length),pt g,jp g 1,undef]) (fun _=>[(11,(bD 0 g (cL #[.slice (jA s.ta s.tc 1 36) s.ts.tail.length (s.tc-1),.slice (jA s.ka s.kc (gT s.ts 0).ks.length 4) (s.ns.drop (gT s.ts 0).ks.length).length (s.kc-(gT s.ts 0).ks.length)] 113)))]) (fun _=>[(8,fun w=>Us w (jA s.ka s.kc (gT s.ts 0).ks.length 4) (s.kc-(gT s.ts 0).ks.length) (s.ns.drop (gT s.ts 0).ks.length))]) (fun _=>(fun w=>bM w s.ta s.tc s.ts∧Us w s.ka s.kc s.ns∧bM w (jA s.ta s.tc 1 36) (s.tc-1) s.ts.tail∧Us w s.ka s.kc (s.ns.take (gT s.ts 0).ks.length)∧Us w (jA s.ka s.kc (gT s.ts 0).ks.length 4) (s.kc-(gT s.ts 0).ks.length) (s.ns.drop (gT s.ts 0).ks.length)∧True)) (fun _=>True) (fun _ _ hF hf=>⟨⟨hF.1,hF.2.1,hF.2.2.1,hF.2.2.2.1,hf 8,trivial⟩,trivial⟩) (cR [[],[],[],[],[0],[],[1],[]]<|cX (jF (fun _=>Instr.sliceAt 80 (.slice s.ka s.ns.length s.kc) (some (vn (gT s.ts 0).ks.length)) none none) (fun _=>(.slice (jA s.ka s.kc (gT s.ts 0).ks.length 4) (s.ns.drop (gT s.ts 0).ks.length).length (s.kc-(gT s.ts 0).ks.length))) (fun _ _ _ hG=>fP (k:=(gT s.ts 0).ks.length) Tryz.underlying80 Tryz.sizeOf64 rfl (jI (rfl)) (fE hc) hG.fn.2.1.le (by rw [List.length_drop])) (fun _ _ w hG=>hG.facts0.mono (fun _ hF=>hF.2.1.drop (fE hc))))<|jE [[],[],[0]]) (fun _ _=>?_)
 refine aB (jM Tryz.f80 2 [0,2,3,4,5,43] [] [pt (nb ρ2 6),vi (gT s.ts 0).kd] [[],[1]] (aI ?_))
 refine sS Tryz.f80 2 [0,2,3,4,5,43,44] [] (fun _=>[vT,vT]) (fun _=>[]) (jQ (fun ρ=>((gT s.ts 0).kd==1)) true (fun _=>(jK hk rfl))<|jE [[]]) (fun _=>?_)
 refine lK [(0,(pt g)),(2,vz),(3,(vi 0)),(4,(pt (nb ρ2 6))),(5,(.slice s.ka (s.ns.take (gT s.ts 0).ks.length).length s.kc)),(43,(vi (gT s.ts 0).kd)),(44,vT)] [(g,(cL #[.slice (jA s.ta s.tc 1 36) s.ts.tail.length (s.tc-1),.slice (jA s.ka s.kc (gT s.ts 0).ks.length 4) (s.ns.drop (gT s.ts 0).ks.length).length (s.kc-(gT s.ts 0).ks.length)] 113)),(nb ρ2 6,(cL (bW.row (gT s.ts 0)) 60))] ?_
 refine oY ?_
 refine iZ Tryz.f80 6 [0,2,3,4] [] (fun ρ=>let qa:Value:=.slice (oa ρ 3) (sgB (gU (s.ns.take (gT s.ts 0).ks.length) 0)).length (nb ρ 3);[.slice s.ka (s.ns.take (gT s.ts 0).ks.length).length s.kc,.pointer (fK s.ka (0*4)),U (gU (s.ns.take (gT s.ts 0).ks.length) 0),qa,qa,vi 0]) (fun _=>[]) (fun ρ=>[(3,fun w=>Fs w0 w (oa ρ 3) (nb ρ 3) (sgB (gU (s.ns.take (gT s.ts 0).ks.length) 0)))]) (fun ρ=>(fun w=>bM w s.ta s.tc s.ts∧Us w s.ka s.kc s.ns∧bM w (jA s.ta s.tc 1 36) (s.tc-1) s.ts.tail∧Us w s.ka s.kc (s.ns.take (gT s.ts 0).ks.length)∧Us w (jA s.ka s.kc (gT s.ts 0).ks.length 4) (s.kc-(gT s.ts 0).ks.length) (s.ns.drop (gT s.ts 0).ks.length)∧Fs w0 w (oa ρ 3) (nb ρ 3) (sgB (gU (s.ns.take (gT s.ts 0).ks.length) 0))∧True)) (fun _=>True) (fun _ _ hF hf=>⟨⟨hF.1,hF.2.1,hF.2.2.1,hF.2.2.2.1,hF.2.2.2.2.1,hf 3,trivial⟩,trivial⟩) (cR [[]]<|cX (qF (fun _ _ _ hG=>Us.idx (k:=.i64) Tryz.underlying80 Tryz.sizeOf64 hG.fn.2.2.2.1 rfl (show (0:Int)=((0:Nat):Int) from rfl) (show 0<(s.ns.take (gT s.ts 0).ks.length).length from (by rw [List.length_take];have e:(gT s.ts 0).ks.length=s.fst.ks.length:=rfl;have:=fE hc;have h1:0<s.fst.ks.length:=(by have:=vV hc;unfold o7 at this;omega);omega))))<|cX (qF (fun _ _ _ hG=>Us.ldA Tryz.isAgg64 Tryz.sizeOf64 hG.fn.2.2.2.1 (show 0<(s.ns.take (gT s.ts 0).ks.length).length from (by rw [List.length_take];have e:(gT s.ts 0).ks.length=s.fst.ks.length:=rfl;have:=fE hc;have h1:0<s.fst.ks.length:=(by have:=vV hc;unfold o7 at this;omega);omega))))<|cX (qB (fun _ _ w _=>single_any (gU (s.ns.take (gT s.ts 0).ks.length) 0) (gU_ok (fun n hn=>hU n (List.mem_of_mem_take hn)) 0) w))<|jE [[],[]]) (fun ρ8 _=>?_)
 refine aF (aP (aC (mD [(0,(pt g)),(2,(.slice (oa ρ8 3) (sgB (gU (s.ns.take (gT s.ts 0).ks.length) 0)).length (nb ρ8 3))),(3,(vi 0)),(4,(pt (nb ρ2 6)))] [(g,(cL #[.slice (jA s.ta s.tc 1 36) s.ts.tail.length (s.tc-1),.slice (jA s.ka s.kc (gT s.ts 0).ks.length 4) (s.ns.drop (gT s.ts 0).ks.length).length (s.kc-(gT s.ts 0).ks.length)] 113)),(nb ρ2 6,(cL (bW.row (gT s.ts 0)) 60))] ?_)))
 exact mR (v:=(.tuple #[.slice (oa ρ8 3) (sgB (gU (s.ns.take (gT s.ts 0).ks.length) 0)).length (nb ρ8 3),vi 0])) (fun _ hS=>⟨oa ρ8 3,nb ρ8 3,congrArg (fun z:List UInt8=>Ending.returned (.tuple #[.slice _ z.length _,.int .i64 0])) (congrArg sgB (gU_take (show 0<s.fst.ks.length from (by have:=vV hc;unfold o7 at this;omega)))),hS.below,hS.knows [1,0],dU (congrArg sgB (gU_take (show 0<s.fst.ks.length from (by have:=vV hc;unfold o7 at this;omega)))) hS.facts.now.2.2.2.2.2.1⟩)
theorem next2_any (g:Nat) (s:Mk) (hk:s.fst.kd=2) (hc:s.can=true) (_ho:mP s.ts) (hU:∀ n∈s.ns,n<M) (h2:s.fst.ks.length=2) (w0:World) (hK:Knows [(g,(cL #[.slice s.ta s.ts.length s.tc,.slice s.ka s.ns.length s.kc] 113))] w0) (hP:dL (fun b=>b∈([(g,(cL #[.slice s.ta s.ts.length s.tc,.slice s.ka s.ns.length s.kc] 113))]:List (Nat × Obj)).map (·.1)) (fun w=>bM w s.ta s.tc s.ts∧Us w s.ka s.kc s.ns∧True) w0):Calls Tryz.prog 80 #[pt g] w0 (fun ε w'=>∃ α κ,ε=.returned (.tuple #[.slice α (mlB s.fst.m (s.ns.take s.fst.ks.length)).length κ,.int .i64 0])∧nN (fun b=>b∈([(g,(cL #[.slice s.ta s.ts.length s.tc,.slice s.ka s.ns.length s.kc] 113))]:List (Nat × Obj)).map (·.1)) w0 w'∧Knows [(g,(cL #[.slice s.go.ta s.go.ts.length s.go.tc,.slice s.go.ka s.go.ns.length s.go.kc] 113))] w'∧Fs w0 w' α κ (mlB s.fst.m (s.ns.take s.fst.ks.length))):=by
 refine Calls.of_okW (n:=97) (F:=(fun w=>bM w s.ta s.tc s.ts∧Us w s.ka s.kc s.ns∧True)) [(g,(cL #[.slice s.ta s.ts.length s.tc,.slice s.ka s.ns.length s.kc] 113))] Tryz.func80 rfl rfl rfl (by simp) hK (by simp) hP ?_
 refine jJ Tryz.f80 2 [0,2,3] [vz,vi 0] ?_
 refine sS Tryz.f80 8 [0,2,3,4] [] (fun ρ=>[pt g,pt g,pt g,.slice s.ta s.ts.length s.tc,.pointer (fK s.ta (0*36)),.agg (bW.row (gT s.ts 0)),pt (nb ρ 6),undef]) (fun ρ=>[(6,(nw ρ 6 (cL (iC 0 0 0 0 vz) 60))),(7,(bD 49 (nb ρ 6) (cL (bW.row (gT s.ts 0)) 60)))]) (cR [[],[],[],[0]]<|cX (qF (fun _ _ _ hG=>bM.idx (k:=.i64) Tryz.underlying24 Tryz.sizeOf60 hG.fn.1 rfl (show (0:Int)=((0:Nat):Int) from rfl) (show 0<s.ts.length from eX hc)))<|cX (qF (fun _ _ _ hG=>bM.ldA (i:=0) Tryz.isAgg60 Tryz.sizeOf60 hG.fn.1 (show 0<s.ts.length from eX hc)))<|jE [[],[49]]) (fun ρ2=>?_)
 refine iZ Tryz.f80 9 [0,2,3,4] [] (fun _=>[pt g,pt g,pt g,pt g,.slice s.ta s.ts.length s.tc,.slice (jA s.ta s.tc 1 36) s.ts.tail.length (s.tc-1),pt g,pt g,undef]) (fun _=>[(8,(bD 0 g (cL #[.slice (jA s.ta s.tc 1 36) s.ts.tail.length (s.tc-1),.slice s.ka s.ns.length s.kc] 113)))]) (fun _=>[(5,fun w=>bM w (jA s.ta s.tc 1 36) (s.tc-1) s.ts.tail)]) (fun _=>(fun w=>bM w s.ta s.tc s.ts∧Us w s.ka s.kc s.ns∧bM w (jA s.ta s.tc 1 36) (s.tc-1) s.ts.tail∧True)) (fun _=>True) (fun _ _ hF hf=>⟨⟨hF.1,hF.2.1,hf 5,trivial⟩,trivial⟩) (cR [[],[],[],[],[0]]<|cX (jF (fun _=>Instr.sliceAt 24 (.slice s.ta s.ts.length s.tc) (some (vi 1)) none none) (fun _=>(.slice (jA s.ta s.tc 1 36) s.ts.tail.length (s.tc-1))) (fun _ _ _ hG=>fP (k:=1) Tryz.underlying24 Tryz.sizeOf60 rfl (jI (rfl)) (eX hc) hG.fn.1.le (by rw [List.length_tail])) (fun _ _ w hG=>hG.facts0.mono (fun _ hF=>hF.1.tail (eX hc))))<|jE [[],[],[0]]) (fun _ _=>?_)
 refine sDf Tryz.f80 [0,1,3,7,0,16,48,127,255] 9 [0,2,3,4,5] [] (fun _=>let qa:Value:=.slice s.ka (s.ns.take (gT s.ts 0).ks.length).length s.kc;[pt g,pt g,jp g 1,.slice s.ka s.ns.length s.kc,jp (nb ρ2 6) 35,.slice (gT s.ts 0).ka (gT s.ts 0).ks.length (gT s.ts 0).kc,vn (gT s.ts 0).ks.length,qa,qa]) (fun _=>[]) (fun _=>[(7,fun w=>Us w s.ka s.kc (s.ns.take (gT s.ts 0).ks.length))]) (fun _=>(fun w=>bM w s.ta s.tc s.ts∧Us w s.ka s.kc s.ns∧bM w (jA s.ta s.tc 1 36) (s.tc-1) s.ts.tail∧Us w s.ka s.kc (s.ns.take (gT s.ts 0).ks.length)∧True)) (fun _=>True) (fun _ _ hF hf=>⟨⟨hF.1,hF.2.1,hF.2.2.1,hf 7,trivial⟩,trivial⟩) (cR [[],[],[],[0],[],[1],[]]<|cX (jF (fun _=>Instr.sliceAt 80 (.slice s.ka s.ns.length s.kc) none (some (vn (gT s.ts 0).ks.length)) none) (fun _=>(.slice s.ka (s.ns.take (gT s.ts 0).ks.length).length s.kc)) (fun _ _ _ hG=>pY (k:=(gT s.ts 0).ks.length) Tryz.underlying80 Tryz.sizeOf64 rfl (jI (rfl)) (fE hc) hG.fn.2.1.le (by rw [List.length_take];exact (Nat.min_eq_left (fE hc)).symm)) (fun _ _ w hG=>hG.facts0.mono (fun _ hF=>hF.2.1.take (gT s.ts 0).ks.length)))<|jE [[]]) (fun _ _=>?_)
 refine sDf Tryz.f80 [0,0,2,6,14,0,32,96,254,511,1023,2047] 12 [0,2,3,4,5] [] (fun _=>[pt g,pt g,pt g,jp g 1,.slice s.ka s.ns.length s.kc,jp (nb ρ2 6) 35,.slice (gT s.ts 0).ka (gT s.ts 0).ks.length (gT s.ts 0).kc,vn (gT s.ts 0).ks.length,.slice (jA s.ka s.kc (gT s.ts 0).ks.length 4) (s.ns.drop (gT s.ts 0).ks.length).length (s.kc-(gT s.ts 0).ks.length),pt g,jp g 1,undef]) (fun _=>[(11,(bD 0 g (cL #[.slice (jA s.ta s.tc 1 36) s.ts.tail.length (s.tc-1),.slice (jA s.ka s.kc (gT s.ts 0).ks.length 4) (s.ns.drop (gT s.ts 0).ks.length).length (s.kc-(gT s.ts 0).ks.length)] 113)))]) (fun _=>[(8,fun w=>Us w (jA s.ka s.kc (gT s.ts 0).ks.length 4) (s.kc-(gT s.ts 0).ks.length) (s.ns.drop (gT s.ts 0).ks.length))]) (fun _=>(fun w=>bM w s.ta s.tc s.ts∧Us w s.ka s.kc s.ns∧bM w (jA s.ta s.tc 1 36) (s.tc-1) s.ts.tail∧Us w s.ka s.kc (s.ns.take (gT s.ts 0).ks.length)∧Us w (jA s.ka s.kc (gT s.ts 0).ks.length 4) (s.kc-(gT s.ts 0).ks.length) (s.ns.drop (gT s.ts 0).ks.length)∧True)) (fun _=>True) (fun _ _ hF hf=>⟨⟨hF.1,hF.2.1,hF.2.2.1,hF.2.2.2.1,hf 8,trivial⟩,trivial⟩) (cR [[],[],[],[],[0],[],[1],[]]<|cX (jF (fun _=>Instr.sliceAt 80 (.slice s.ka s.ns.length s.kc) (some (vn (gT s.ts 0).ks.length)) none none) (fun _=>(.slice (jA s.ka s.kc (gT s.ts 0).ks.length 4) (s.ns.drop (gT s.ts 0).ks.length).length (s.kc-(gT s.ts 0).ks.length))) (fun _ _ _ hG=>fP (k:=(gT s.ts 0).ks.length) Tryz.underlying80 Tryz.sizeOf64 rfl (jI (rfl)) (fE hc) hG.fn.2.1.le (by rw [List.length_drop])) (fun _ _ w hG=>hG.facts0.mono (fun _ hF=>hF.2.1.drop (fE hc))))<|jE [[],[],[0]]) (fun _ _=>?_)
 refine aB (jM Tryz.f80 2 [0,2,3,4,5,43] [] [pt (nb ρ2 6),vi (gT s.ts 0).kd] [[],[1]] (aI ?_))
 refine sS Tryz.f80 2 [0,2,3,4,5,43,44] [] (fun _=>[vF,vF]) (fun _=>[]) (jQ (fun ρ=>((gT s.ts 0).kd==1)) false (fun _=>(jK hk rfl))<|jE [[]]) (fun _=>?_)
 refine lK [(0,(pt g)),(2,vz),(3,(vi 0)),(4,(pt (nb ρ2 6))),(5,(.slice s.ka (s.ns.take (gT s.ts 0).ks.length).length s.kc)),(43,(vi (gT s.ts 0).kd)),(44,vF)] [(g,(cL #[.slice (jA s.ta s.tc 1 36) s.ts.tail.length (s.tc-1),.slice (jA s.ka s.kc (gT s.ts 0).ks.length 4) (s.ns.drop (gT s.ts 0).ks.length).length (s.kc-(gT s.ts 0).ks.length)] 113)),(nb ρ2 6,(cL (bW.row (gT s.ts 0)) 60))] ?_
 refine oN ?_
 refine sS Tryz.f80 2 [0,2,3,4,5,50] [] (fun _=>[vT,vT]) (fun _=>[]) (jQ (fun ρ=>((gT s.ts 0).kd==2)) true (fun _=>(jK hk rfl))<|jE [[]]) (fun _=>?_)
 refine oY ?_
 refine iZ Tryz.f80 8 [0,2,3,4] [] (fun ρ=>let qa:Value:=.slice (oa ρ 3) (mlB (gT s.ts 0).m (s.ns.take (gT s.ts 0).ks.length)).length (nb ρ 3);[jp (nb ρ2 6) 1,vi (gT s.ts 0).m,.slice s.ka (s.ns.take (gT s.ts 0).ks.length).length s.kc,.tuple #[qa,vi 0],qa,vi 0,qa,vi 0]) (fun _=>[]) (fun ρ=>[(3,fun w=>Fs w0 w (oa ρ 3) (nb ρ 3) (mlB (gT s.ts 0).m (s.ns.take (gT s.ts 0).ks.length)))]) (fun ρ=>(fun w=>bM w s.ta s.tc s.ts∧Us w s.ka s.kc s.ns∧bM w (jA s.ta s.tc 1 36) (s.tc-1) s.ts.tail∧Us w s.ka s.kc (s.ns.take (gT s.ts 0).ks.length)∧Us w (jA s.ka s.kc (gT s.ts 0).ks.length 4) (s.kc-(gT s.ts 0).ks.length) (s.ns.drop (gT s.ts 0).ks.length)∧Fs w0 w (oa ρ 3) (nb ρ 3) (mlB (gT s.ts 0).m (s.ns.take (gT s.ts 0).ks.length))∧True)) (fun _=>True) (fun _ _ hF hf=>⟨⟨hF.1,hF.2.1,hF.2.2.1,hF.2.2.2.1,hF.2.2.2.2.1,hf 3,trivial⟩,trivial⟩) (cR [[],[1],[]]<|cX (qB (fun _ _ w hG=>multi_any (gT s.ts 0).m s.ka s.kc (s.ns.take (gT s.ts 0).ks.length) (fun n hn=>hU n (List.mem_of_mem_take hn)) (by rw [List.length_take];have:=fE hc;have h1:=vV hc;unfold o7 at h1;have:=hk;have:=h2;have e:(gT s.ts 0).ks.length=s.fst.ks.length:=rfl;have e2:(gT s.ts 0).m=s.fst.m:=rfl;omega) (by rw [List.length_take];have:=fE hc;have h1:=vV hc;unfold o7 at h1;have:=hk;have e:(gT s.ts 0).ks.length=s.fst.ks.length:=rfl;have e2:(gT s.ts 0).m=s.fst.m:=rfl;omega) w hG.fn.2.2.2.1))<|jE [[],[],[],[]]) (fun ρ9 _=>?_)
 refine aF (aP (aC (mD [(0,(pt g)),(2,(.slice (oa ρ9 3) (mlB (gT s.ts 0).m (s.ns.take (gT s.ts 0).ks.length)).length (nb ρ9 3))),(3,(vi 0)),(4,(pt (nb ρ2 6)))] [(g,(cL #[.slice (jA s.ta s.tc 1 36) s.ts.tail.length (s.tc-1),.slice (jA s.ka s.kc (gT s.ts 0).ks.length 4) (s.ns.drop (gT s.ts 0).ks.length).length (s.kc-(gT s.ts 0).ks.length)] 113)),(nb ρ2 6,(cL (bW.row (gT s.ts 0)) 60))] ?_)))
 exact mR (v:=(.tuple #[.slice (oa ρ9 3) (mlB (gT s.ts 0).m (s.ns.take (gT s.ts 0).ks.length)).length (nb ρ9 3),vi 0])) (fun _ hS=>⟨oa ρ9 3,nb ρ9 3,rfl,hS.below,hS.knows [1,0],dU (rfl) hS.facts.now.2.2.2.2.2.1⟩)
theorem next3_any (g:Nat) (s:Mk) (x:List UInt8) (s1:Mk) (hk:s.fst.kd=3) (hc:s.can=true) (ho:mP s.ts) (_hU:∀ n∈s.ns,n<M) (hx:x.length≤1000000) (w0:World) (hK:Knows [(g,(cL #[.slice s.ta s.ts.length s.tc,.slice s.ka s.ns.length s.kc] 113))] w0) (hP:dL (fun b=>b∈([(g,(cL #[.slice s.ta s.ts.length s.tc,.slice s.ka s.ns.length s.kc] 113))]:List (Nat × Obj)).map (·.1)) (fun w=>bM w s.ta s.tc s.ts∧Us w s.ka s.kc s.ns∧True) w0) (ih:NextC g s.go x s1):Calls Tryz.prog 80 #[pt g] w0 (fun ε w'=>∃ α κ,ε=.returned (.tuple #[.slice α (afB s.fst.nu x).length κ,.int .i64 0])∧nN (fun b=>b∈([(g,(cL #[.slice s.ta s.ts.length s.tc,.slice s.ka s.ns.length s.kc] 113))]:List (Nat × Obj)).map (·.1)) w0 w'∧Knows [(g,(cL #[.slice s1.ta s1.ts.length s1.tc,.slice s1.ka s1.ns.length s1.kc] 113))] w'∧Fs w0 w' α κ (afB s.fst.nu x)):=by
 refine Calls.of_okW (n:=97) (F:=(fun w=>bM w s.ta s.tc s.ts∧Us w s.ka s.kc s.ns∧True)) [(g,(cL #[.slice s.ta s.ts.length s.tc,.slice s.ka s.ns.length s.kc] 113))] Tryz.func80 rfl rfl rfl (by simp) hK (by simp) hP ?_
 refine jJ Tryz.f80 2 [0,2,3] [vz,vi 0] ?_
 refine sS Tryz.f80 8 [0,2,3,4] [] (fun ρ=>[pt g,pt g,pt g,.slice s.ta s.ts.length s.tc,.pointer (fK s.ta (0*36)),.agg (bW.row (gT s.ts 0)),pt (nb ρ 6),undef]) (fun ρ=>[(6,(nw ρ 6 (cL (iC 0 0 0 0 vz) 60))),(7,(bD 49 (nb ρ 6) (cL (bW.row (gT s.ts 0)) 60)))]) (cR [[],[],[],[0]]<|cX (qF (fun _ _ _ hG=>bM.idx (k:=.i64) Tryz.underlying24 Tryz.sizeOf60 hG.fn.1 rfl (show (0:Int)=((0:Nat):Int) from rfl) (show 0<s.ts.length from eX hc)))<|cX (qF (fun _ _ _ hG=>bM.ldA (i:=0) Tryz.isAgg60 Tryz.sizeOf60 hG.fn.1 (show 0<s.ts.length from eX hc)))<|jE [[],[49]]) (fun ρ2=>?_)
 refine iZ Tryz.f80 9 [0,2,3,4] [] (fun _=>[pt g,pt g,pt g,pt g,.slice s.ta s.ts.length s.tc,.slice (jA s.ta s.tc 1 36) s.ts.tail.length (s.tc-1),pt g,pt g,undef]) (fun _=>[(8,(bD 0 g (cL #[.slice (jA s.ta s.tc 1 36) s.ts.tail.length (s.tc-1),.slice s.ka s.ns.length s.kc] 113)))]) (fun _=>[(5,fun w=>bM w (jA s.ta s.tc 1 36) (s.tc-1) s.ts.tail)]) (fun _=>(fun w=>bM w s.ta s.tc s.ts∧Us w s.ka s.kc s.ns∧bM w (jA s.ta s.tc 1 36) (s.tc-1) s.ts.tail∧True)) (fun _=>True) (fun _ _ hF hf=>⟨⟨hF.1,hF.2.1,hf 5,trivial⟩,trivial⟩) (cR [[],[],[],[],[0]]<|cX (jF (fun _=>Instr.sliceAt 24 (.slice s.ta s.ts.length s.tc) (some (vi 1)) none none) (fun _=>(.slice (jA s.ta s.tc 1 36) s.ts.tail.length (s.tc-1))) (fun _ _ _ hG=>fP (k:=1) Tryz.underlying24 Tryz.sizeOf60 rfl (jI (rfl)) (eX hc) hG.fn.1.le (by rw [List.length_tail])) (fun _ _ w hG=>hG.facts0.mono (fun _ hF=>hF.1.tail (eX hc))))<|jE [[],[],[0]]) (fun _ _=>?_)
 refine sDf Tryz.f80 [0,1,3,7,0,16,48,127,255] 9 [0,2,3,4,5] [] (fun _=>let qa:Value:=.slice s.ka (s.ns.take (gT s.ts 0).ks.length).length s.kc;[pt g,pt g,jp g 1,.slice s.ka s.ns.length s.kc,jp (nb ρ2 6) 35,.slice (gT s.ts 0).ka (gT s.ts 0).ks.length (gT s.ts 0).kc,vn (gT s.ts 0).ks.length,qa,qa]) (fun _=>[]) (fun _=>[(7,fun w=>Us w s.ka s.kc (s.ns.take (gT s.ts 0).ks.length))]) (fun _=>(fun w=>bM w s.ta s.tc s.ts∧Us w s.ka s.kc s.ns∧bM w (jA s.ta s.tc 1 36) (s.tc-1) s.ts.tail∧Us w s.ka s.kc (s.ns.take (gT s.ts 0).ks.length)∧True)) (fun _=>True) (fun _ _ hF hf=>⟨⟨hF.1,hF.2.1,hF.2.2.1,hf 7,trivial⟩,trivial⟩) (cR [[],[],[],[0],[],[1],[]]<|cX (jF (fun _=>Instr.sliceAt 80 (.slice s.ka s.ns.length s.kc) none (some (vn (gT s.ts 0).ks.length)) none) (fun _=>(.slice s.ka (s.ns.take (gT s.ts 0).ks.length).length s.kc)) (fun _ _ _ hG=>pY (k:=(gT s.ts 0).ks.length) Tryz.underlying80 Tryz.sizeOf64 rfl (jI (rfl)) (fE hc) hG.fn.2.1.le (by rw [List.length_take];exact (Nat.min_eq_left (fE hc)).symm)) (fun _ _ w hG=>hG.facts0.mono (fun _ hF=>hF.2.1.take (gT s.ts 0).ks.length)))<|jE [[]]) (fun _ _=>?_)
 refine sDf Tryz.f80 [0,0,2,6,14,0,32,96,254,511,1023,2047] 12 [0,2,3,4,5] [] (fun _=>[pt g,pt g,pt g,jp g 1,.slice s.ka s.ns.length s.kc,jp (nb ρ2 6) 35,.slice (gT s.ts 0).ka (gT s.ts 0).ks.length (gT s.ts 0).kc,vn (gT s.ts 0).ks.length,.slice (jA s.ka s.kc (gT s.ts 0).ks.length 4) (s.ns.drop (gT s.ts 0).ks.length).length (s.kc-(gT s.ts 0).ks.length),pt g,jp g 1,undef]) (fun _=>[(11,(bD 0 g (cL #[.slice (jA s.ta s.tc 1 36) s.ts.tail.length (s.tc-1),.slice (jA s.ka s.kc (gT s.ts 0).ks.length 4) (s.ns.drop (gT s.ts 0).ks.length).length (s.kc-(gT s.ts 0).ks.length)] 113)))]) (fun _=>[(8,fun w=>Us w (jA s.ka s.kc (gT s.ts 0).ks.length 4) (s.kc-(gT s.ts 0).ks.length) (s.ns.drop (gT s.ts 0).ks.length))]) (fun _=>(fun w=>bM w s.ta s.tc s.ts∧Us w s.ka s.kc s.ns∧bM w (jA s.ta s.tc 1 36) (s.tc-1) s.ts.tail∧Us w s.ka s.kc (s.ns.take (gT s.ts 0).ks.length)∧Us w (jA s.ka s.kc (gT s.ts 0).ks.length 4) (s.kc-(gT s.ts 0).ks.length) (s.ns.drop (gT s.ts 0).ks.length)∧True)) (fun _=>True) (fun _ _ hF hf=>⟨⟨hF.1,hF.2.1,hF.2.2.1,hF.2.2.2.1,hf 8,trivial⟩,trivial⟩) (cR [[],[],[],[],[0],[],[1],[]]<|cX (jF (fun _=>Instr.sliceAt 80 (.slice s.ka s.ns.length s.kc) (some (vn (gT s.ts 0).ks.length)) none none) (fun _=>(.slice (jA s.ka s.kc (gT s.ts 0).ks.length 4) (s.ns.drop (gT s.ts 0).ks.length).length (s.kc-(gT s.ts 0).ks.length))) (fun _ _ _ hG=>fP (k:=(gT s.ts 0).ks.length) Tryz.underlying80 Tryz.sizeOf64 rfl (jI (rfl)) (fE hc) hG.fn.2.1.le (by rw [List.length_drop])) (fun _ _ w hG=>hG.facts0.mono (fun _ hF=>hF.2.1.drop (fE hc))))<|jE [[],[],[0]]) (fun _ _=>?_)
 refine aB (jM Tryz.f80 2 [0,2,3,4,5,43] [] [pt (nb ρ2 6),vi (gT s.ts 0).kd] [[],[1]] (aI ?_))
 refine sS Tryz.f80 2 [0,2,3,4,5,43,44] [] (fun _=>[vF,vF]) (fun _=>[]) (jQ (fun ρ=>((gT s.ts 0).kd==1)) false (fun _=>(jK hk rfl))<|jE [[]]) (fun _=>?_)
 refine lK [(0,(pt g)),(2,vz),(3,(vi 0)),(4,(pt (nb ρ2 6))),(5,(.slice s.ka (s.ns.take (gT s.ts 0).ks.length).length s.kc)),(43,(vi (gT s.ts 0).kd)),(44,vF)] [(g,(cL #[.slice (jA s.ta s.tc 1 36) s.ts.tail.length (s.tc-1),.slice (jA s.ka s.kc (gT s.ts 0).ks.length 4) (s.ns.drop (gT s.ts 0).ks.length).length (s.kc-(gT s.ts 0).ks.length)] 113)),(nb ρ2 6,(cL (bW.row (gT s.ts 0)) 60))] ?_
 refine oN ?_
 refine sS Tryz.f80 2 [0,2,3,4,5,50] [] (fun _=>[vF,vF]) (fun _=>[]) (jQ (fun ρ=>((gT s.ts 0).kd==2)) false (fun _=>(jK hk rfl))<|jE [[]]) (fun _=>?_)
 refine oN ?_
 refine aG (aJ (aA ?_))
 refine iZ Tryz.f80 7 [0,2,3,4,6,7] [] (fun ρ=>let qa:Value:=.slice (oa ρ 1) x.length (nb ρ 1);[pt g,.tuple #[qa,vi 0],.tuple #[qa,vi 0],qa,vi 0,qa,vi 0]) (fun _=>[(1,(bD 0 g (cL #[.slice s1.ta s1.ts.length s1.tc,.slice s1.ka s1.ns.length s1.kc] 113)))]) (fun ρ=>[(1,fun w=>Fs w0 w (oa ρ 1) (nb ρ 1) x)]) (fun ρ=>(fun w=>bM w s.ta s.tc s.ts∧Us w s.ka s.kc s.ns∧bM w (jA s.ta s.tc 1 36) (s.tc-1) s.ts.tail∧Us w s.ka s.kc (s.ns.take (gT s.ts 0).ks.length)∧Us w (jA s.ka s.kc (gT s.ts 0).ks.length 4) (s.kc-(gT s.ts 0).ks.length) (s.ns.drop (gT s.ts 0).ks.length)∧Fs w0 w (oa ρ 1) (nb ρ 1) x∧True)) (fun _=>True) (fun _ _ hF hf=>⟨⟨hF.1,hF.2.1,hF.2.2.1,hF.2.2.2.1,hF.2.2.2.2.1,hf 1,trivial⟩,trivial⟩) (cR [[]]<|cX (qWB [0] (fun _ _ w hG hK=>ih w hK (hG.pK [0] (fun _ hF=>⟨hF.2.2.1,hF.2.2.2.2.1,trivial⟩))))<|jE [[],[],[],[],[]]) (fun ρ9 _=>?_)
 refine aB (jJ Tryz.f80 2 [0,2,3,4,6,7,64] [vi 0,vF] ?_)
 refine oN ?_
 refine aG (aA (aB (jM Tryz.f80 2 [0,2,3,4,6,7,67] [] [pt (nb ρ2 6),vi (gT s.ts 0).kd] [[],[1]] (aI ?_))))
 refine sS Tryz.f80 2 [0,2,3,4,6,7,67,68] [] (fun _=>[vT,vT]) (fun _=>[]) (jQ (fun ρ=>((gT s.ts 0).kd==3)) true (fun _=>(jK hk rfl))<|jE [[]]) (fun _=>?_)
 refine oY ?_
 refine iZ Tryz.f80 6 [0,2,3,6,7] [1,0] (fun ρ=>let qa:Value:=.slice (oa ρ 3) (afB (gT s.ts 0).nu x).length (nb ρ 3);[jp (nb ρ2 6) 2,vu ((gT s.ts 0).nu),.slice (oa ρ9 1) x.length (nb ρ9 1),qa,qa,vi 0]) (fun _=>[]) (fun ρ=>[(3,fun w=>Fs w0 w (oa ρ 3) (nb ρ 3) (afB (gT s.ts 0).nu x))]) (fun ρ=>(fun w=>bM w s.ta s.tc s.ts∧Us w s.ka s.kc s.ns∧bM w (jA s.ta s.tc 1 36) (s.tc-1) s.ts.tail∧Us w s.ka s.kc (s.ns.take (gT s.ts 0).ks.length)∧Us w (jA s.ka s.kc (gT s.ts 0).ks.length 4) (s.kc-(gT s.ts 0).ks.length) (s.ns.drop (gT s.ts 0).ks.length)∧Fs w0 w (oa ρ9 1) (nb ρ9 1) x∧Fs w0 w (oa ρ 3) (nb ρ 3) (afB (gT s.ts 0).nu x)∧True)) (fun _=>True) (fun _ _ hF hf=>⟨⟨hF.1,hF.2.1,hF.2.2.1,hF.2.2.2.1,hF.2.2.2.2.1,hF.2.2.2.2.2.1,hf 3,trivial⟩,trivial⟩) (cR [[],[1],[]]<|cX (qB (fun _ _ w hG=>after_any (gT s.ts 0).nu (oa ρ9 1) (nb ρ9 1) x (ho.gT 0).nu hx w hG.fn.2.2.2.2.2.1.1))<|jE [[],[]]) (fun ρ13 _=>?_)
 refine aF (aP (aC (mD [(0,(pt g)),(2,(.slice (oa ρ13 3) (afB (gT s.ts 0).nu x).length (nb ρ13 3))),(3,(vi 0)),(6,(.slice (oa ρ9 1) x.length (nb ρ9 1))),(7,(vi 0))] [(g,(cL #[.slice s1.ta s1.ts.length s1.tc,.slice s1.ka s1.ns.length s1.kc] 113))] ?_)))
 exact mR (v:=(.tuple #[.slice (oa ρ13 3) (afB (gT s.ts 0).nu x).length (nb ρ13 3),vi 0])) (fun _ hS=>⟨oa ρ13 3,nb ρ13 3,rfl,hS.below,hS.knows [1],dU (rfl) hS.facts.now.2.2.2.2.2.2.1⟩)
theorem next4_any (g:Nat) (s:Mk) (x:List UInt8) (s1:Mk) (hk:s.fst.kd=4) (hc:s.can=true) (ho:mP s.ts) (_hU:∀ n∈s.ns,n<M) (hx:x.length≤1000000) (w0:World) (hK:Knows [(g,(cL #[.slice s.ta s.ts.length s.tc,.slice s.ka s.ns.length s.kc] 113))] w0) (hP:dL (fun b=>b∈([(g,(cL #[.slice s.ta s.ts.length s.tc,.slice s.ka s.ns.length s.kc] 113))]:List (Nat × Obj)).map (·.1)) (fun w=>bM w s.ta s.tc s.ts∧Us w s.ka s.kc s.ns∧True) w0) (ih:NextC g s.go x s1):Calls Tryz.prog 80 #[pt g] w0 (fun ε w'=>∃ α κ,ε=.returned (.tuple #[.slice α (olB s.fst.nu x).length κ,.int .i64 0])∧nN (fun b=>b∈([(g,(cL #[.slice s.ta s.ts.length s.tc,.slice s.ka s.ns.length s.kc] 113))]:List (Nat × Obj)).map (·.1)) w0 w'∧Knows [(g,(cL #[.slice s1.ta s1.ts.length s1.tc,.slice s1.ka s1.ns.length s1.kc] 113))] w'∧Fs w0 w' α κ (olB s.fst.nu x)):=by
 refine Calls.of_okW (n:=97) (F:=(fun w=>bM w s.ta s.tc s.ts∧Us w s.ka s.kc s.ns∧True)) [(g,(cL #[.slice s.ta s.ts.length s.tc,.slice s.ka s.ns.length s.kc] 113))] Tryz.func80 rfl rfl rfl (by simp) hK (by simp) hP ?_
 refine jJ Tryz.f80 2 [0,2,3] [vz,vi 0] ?_
 refine sS Tryz.f80 8 [0,2,3,4] [] (fun ρ=>[pt g,pt g,pt g,.slice s.ta s.ts.length s.tc,.pointer (fK s.ta (0*36)),.agg (bW.row (gT s.ts 0)),pt (nb ρ 6),undef]) (fun ρ=>[(6,(nw ρ 6 (cL (iC 0 0 0 0 vz) 60))),(7,(bD 49 (nb ρ 6) (cL (bW.row (gT s.ts 0)) 60)))]) (cR [[],[],[],[0]]<|cX (qF (fun _ _ _ hG=>bM.idx (k:=.i64) Tryz.underlying24 Tryz.sizeOf60 hG.fn.1 rfl (show (0:Int)=((0:Nat):Int) from rfl) (show 0<s.ts.length from eX hc)))<|cX (qF (fun _ _ _ hG=>bM.ldA (i:=0) Tryz.isAgg60 Tryz.sizeOf60 hG.fn.1 (show 0<s.ts.length from eX hc)))<|jE [[],[49]]) (fun ρ2=>?_)
 refine iZ Tryz.f80 9 [0,2,3,4] [] (fun _=>[pt g,pt g,pt g,pt g,.slice s.ta s.ts.length s.tc,.slice (jA s.ta s.tc 1 36) s.ts.tail.length (s.tc-1),pt g,pt g,undef]) (fun _=>[(8,(bD 0 g (cL #[.slice (jA s.ta s.tc 1 36) s.ts.tail.length (s.tc-1),.slice s.ka s.ns.length s.kc] 113)))]) (fun _=>[(5,fun w=>bM w (jA s.ta s.tc 1 36) (s.tc-1) s.ts.tail)]) (fun _=>(fun w=>bM w s.ta s.tc s.ts∧Us w s.ka s.kc s.ns∧bM w (jA s.ta s.tc 1 36) (s.tc-1) s.ts.tail∧True)) (fun _=>True) (fun _ _ hF hf=>⟨⟨hF.1,hF.2.1,hf 5,trivial⟩,trivial⟩) (cR [[],[],[],[],[0]]<|cX (jF (fun _=>Instr.sliceAt 24 (.slice s.ta s.ts.length s.tc) (some (vi 1)) none none) (fun _=>(.slice (jA s.ta s.tc 1 36) s.ts.tail.length (s.tc-1))) (fun _ _ _ hG=>fP (k:=1) Tryz.underlying24 Tryz.sizeOf60 rfl (jI (rfl)) (eX hc) hG.fn.1.le (by rw [List.length_tail])) (fun _ _ w hG=>hG.facts0.mono (fun _ hF=>hF.1.tail (eX hc))))<|jE [[],[],[0]]) (fun _ _=>?_)
 refine sDf Tryz.f80 [0,1,3,7,0,16,48,127,255] 9 [0,2,3,4,5] [] (fun _=>let qa:Value:=.slice s.ka (s.ns.take (gT s.ts 0).ks.length).length s.kc;[pt g,pt g,jp g 1,.slice s.ka s.ns.length s.kc,jp (nb ρ2 6) 35,.slice (gT s.ts 0).ka (gT s.ts 0).ks.length (gT s.ts 0).kc,vn (gT s.ts 0).ks.length,qa,qa]) (fun _=>[]) (fun _=>[(7,fun w=>Us w s.ka s.kc (s.ns.take (gT s.ts 0).ks.length))]) (fun _=>(fun w=>bM w s.ta s.tc s.ts∧Us w s.ka s.kc s.ns∧bM w (jA s.ta s.tc 1 36) (s.tc-1) s.ts.tail∧Us w s.ka s.kc (s.ns.take (gT s.ts 0).ks.length)∧True)) (fun _=>True) (fun _ _ hF hf=>⟨⟨hF.1,hF.2.1,hF.2.2.1,hf 7,trivial⟩,trivial⟩) (cR [[],[],[],[0],[],[1],[]]<|cX (jF (fun _=>Instr.sliceAt 80 (.slice s.ka s.ns.length s.kc) none (some (vn (gT s.ts 0).ks.length)) none) (fun _=>(.slice s.ka (s.ns.take (gT s.ts 0).ks.length).length s.kc)) (fun _ _ _ hG=>pY (k:=(gT s.ts 0).ks.length) Tryz.underlying80 Tryz.sizeOf64 rfl (jI (rfl)) (fE hc) hG.fn.2.1.le (by rw [List.length_take];exact (Nat.min_eq_left (fE hc)).symm)) (fun _ _ w hG=>hG.facts0.mono (fun _ hF=>hF.2.1.take (gT s.ts 0).ks.length)))<|jE [[]]) (fun _ _=>?_)
 refine sDf Tryz.f80 [0,0,2,6,14,0,32,96,254,511,1023,2047] 12 [0,2,3,4,5] [] (fun _=>[pt g,pt g,pt g,jp g 1,.slice s.ka s.ns.length s.kc,jp (nb ρ2 6) 35,.slice (gT s.ts 0).ka (gT s.ts 0).ks.length (gT s.ts 0).kc,vn (gT s.ts 0).ks.length,.slice (jA s.ka s.kc (gT s.ts 0).ks.length 4) (s.ns.drop (gT s.ts 0).ks.length).length (s.kc-(gT s.ts 0).ks.length),pt g,jp g 1,undef]) (fun _=>[(11,(bD 0 g (cL #[.slice (jA s.ta s.tc 1 36) s.ts.tail.length (s.tc-1),.slice (jA s.ka s.kc (gT s.ts 0).ks.length 4) (s.ns.drop (gT s.ts 0).ks.length).length (s.kc-(gT s.ts 0).ks.length)] 113)))]) (fun _=>[(8,fun w=>Us w (jA s.ka s.kc (gT s.ts 0).ks.length 4) (s.kc-(gT s.ts 0).ks.length) (s.ns.drop (gT s.ts 0).ks.length))]) (fun _=>(fun w=>bM w s.ta s.tc s.ts∧Us w s.ka s.kc s.ns∧bM w (jA s.ta s.tc 1 36) (s.tc-1) s.ts.tail∧Us w s.ka s.kc (s.ns.take (gT s.ts 0).ks.length)∧Us w (jA s.ka s.kc (gT s.ts 0).ks.length 4) (s.kc-(gT s.ts 0).ks.length) (s.ns.drop (gT s.ts 0).ks.length)∧True)) (fun _=>True) (fun _ _ hF hf=>⟨⟨hF.1,hF.2.1,hF.2.2.1,hF.2.2.2.1,hf 8,trivial⟩,trivial⟩) (cR [[],[],[],[],[0],[],[1],[]]<|cX (jF (fun _=>Instr.sliceAt 80 (.slice s.ka s.ns.length s.kc) (some (vn (gT s.ts 0).ks.length)) none none) (fun _=>(.slice (jA s.ka s.kc (gT s.ts 0).ks.length 4) (s.ns.drop (gT s.ts 0).ks.length).length (s.kc-(gT s.ts 0).ks.length))) (fun _ _ _ hG=>fP (k:=(gT s.ts 0).ks.length) Tryz.underlying80 Tryz.sizeOf64 rfl (jI (rfl)) (fE hc) hG.fn.2.1.le (by rw [List.length_drop])) (fun _ _ w hG=>hG.facts0.mono (fun _ hF=>hF.2.1.drop (fE hc))))<|jE [[],[],[0]]) (fun _ _=>?_)
 refine aB (jM Tryz.f80 2 [0,2,3,4,5,43] [] [pt (nb ρ2 6),vi (gT s.ts 0).kd] [[],[1]] (aI ?_))
 refine sS Tryz.f80 2 [0,2,3,4,5,43,44] [] (fun _=>[vF,vF]) (fun _=>[]) (jQ (fun ρ=>((gT s.ts 0).kd==1)) false (fun _=>(jK hk rfl))<|jE [[]]) (fun _=>?_)
 refine lK [(0,(pt g)),(2,vz),(3,(vi 0)),(4,(pt (nb ρ2 6))),(5,(.slice s.ka (s.ns.take (gT s.ts 0).ks.length).length s.kc)),(43,(vi (gT s.ts 0).kd)),(44,vF)] [(g,(cL #[.slice (jA s.ta s.tc 1 36) s.ts.tail.length (s.tc-1),.slice (jA s.ka s.kc (gT s.ts 0).ks.length 4) (s.ns.drop (gT s.ts 0).ks.length).length (s.kc-(gT s.ts 0).ks.length)] 113)),(nb ρ2 6,(cL (bW.row (gT s.ts 0)) 60))] ?_
 refine oN ?_
 refine sS Tryz.f80 2 [0,2,3,4,5,50] [] (fun _=>[vF,vF]) (fun _=>[]) (jQ (fun ρ=>((gT s.ts 0).kd==2)) false (fun _=>(jK hk rfl))<|jE [[]]) (fun _=>?_)
 refine oN ?_
 refine aG (aJ (aA ?_))
 refine iZ Tryz.f80 7 [0,2,3,4,6,7] [] (fun ρ=>let qa:Value:=.slice (oa ρ 1) x.length (nb ρ 1);[pt g,.tuple #[qa,vi 0],.tuple #[qa,vi 0],qa,vi 0,qa,vi 0]) (fun _=>[(1,(bD 0 g (cL #[.slice s1.ta s1.ts.length s1.tc,.slice s1.ka s1.ns.length s1.kc] 113)))]) (fun ρ=>[(1,fun w=>Fs w0 w (oa ρ 1) (nb ρ 1) x)]) (fun ρ=>(fun w=>bM w s.ta s.tc s.ts∧Us w s.ka s.kc s.ns∧bM w (jA s.ta s.tc 1 36) (s.tc-1) s.ts.tail∧Us w s.ka s.kc (s.ns.take (gT s.ts 0).ks.length)∧Us w (jA s.ka s.kc (gT s.ts 0).ks.length 4) (s.kc-(gT s.ts 0).ks.length) (s.ns.drop (gT s.ts 0).ks.length)∧Fs w0 w (oa ρ 1) (nb ρ 1) x∧True)) (fun _=>True) (fun _ _ hF hf=>⟨⟨hF.1,hF.2.1,hF.2.2.1,hF.2.2.2.1,hF.2.2.2.2.1,hf 1,trivial⟩,trivial⟩) (cR [[]]<|cX (qWB [0] (fun _ _ w hG hK=>ih w hK (hG.pK [0] (fun _ hF=>⟨hF.2.2.1,hF.2.2.2.2.1,trivial⟩))))<|jE [[],[],[],[],[]]) (fun ρ9 _=>?_)
 refine aB (jJ Tryz.f80 2 [0,2,3,4,6,7,64] [vi 0,vF] ?_)
 refine oN ?_
 refine aG (aA (aB (jM Tryz.f80 2 [0,2,3,4,6,7,67] [] [pt (nb ρ2 6),vi (gT s.ts 0).kd] [[],[1]] (aI ?_))))
 refine sS Tryz.f80 2 [0,2,3,4,6,7,67,68] [] (fun _=>[vF,vF]) (fun _=>[]) (jQ (fun ρ=>((gT s.ts 0).kd==3)) false (fun _=>(jK hk rfl))<|jE [[]]) (fun _=>?_)
 refine oN ?_
 refine sS Tryz.f80 2 [0,2,3,4,6,7,67,74] [] (fun _=>[vT,vT]) (fun _=>[]) (jQ (fun ρ=>((gT s.ts 0).kd==4)) true (fun _=>(jK hk rfl))<|jE [[]]) (fun _=>?_)
 refine oY ?_
 refine iZ Tryz.f80 6 [0,2,3,6,7] [1,0] (fun ρ=>let qa:Value:=.slice (oa ρ 3) (olB (gT s.ts 0).nu x).length (nb ρ 3);[jp (nb ρ2 6) 2,vu ((gT s.ts 0).nu),.slice (oa ρ9 1) x.length (nb ρ9 1),qa,qa,vi 0]) (fun _=>[]) (fun ρ=>[(3,fun w=>Fs w0 w (oa ρ 3) (nb ρ 3) (olB (gT s.ts 0).nu x))]) (fun ρ=>(fun w=>bM w s.ta s.tc s.ts∧Us w s.ka s.kc s.ns∧bM w (jA s.ta s.tc 1 36) (s.tc-1) s.ts.tail∧Us w s.ka s.kc (s.ns.take (gT s.ts 0).ks.length)∧Us w (jA s.ka s.kc (gT s.ts 0).ks.length 4) (s.kc-(gT s.ts 0).ks.length) (s.ns.drop (gT s.ts 0).ks.length)∧Fs w0 w (oa ρ9 1) (nb ρ9 1) x∧Fs w0 w (oa ρ 3) (nb ρ 3) (olB (gT s.ts 0).nu x)∧True)) (fun _=>True) (fun _ _ hF hf=>⟨⟨hF.1,hF.2.1,hF.2.2.1,hF.2.2.2.1,hF.2.2.2.2.1,hF.2.2.2.2.2.1,hf 3,trivial⟩,trivial⟩) (cR [[],[1],[]]<|cX (qB (fun _ _ w hG=>older_any (gT s.ts 0).nu (oa ρ9 1) (nb ρ9 1) x (ho.gT 0).nu hx w hG.fn.2.2.2.2.2.1.1))<|jE [[],[]]) (fun ρ14 _=>?_)
 refine aF (aP (aC (mD [(0,(pt g)),(2,(.slice (oa ρ14 3) (olB (gT s.ts 0).nu x).length (nb ρ14 3))),(3,(vi 0)),(6,(.slice (oa ρ9 1) x.length (nb ρ9 1))),(7,(vi 0))] [(g,(cL #[.slice s1.ta s1.ts.length s1.tc,.slice s1.ka s1.ns.length s1.kc] 113))] ?_)))
 exact mR (v:=(.tuple #[.slice (oa ρ14 3) (olB (gT s.ts 0).nu x).length (nb ρ14 3),vi 0])) (fun _ hS=>⟨oa ρ14 3,nb ρ14 3,rfl,hS.below,hS.knows [1],dU (rfl) hS.facts.now.2.2.2.2.2.2.1⟩)
theorem next5_any (g:Nat) (s:Mk) (x:List UInt8) (s1:Mk) (hk:s.fst.kd=5) (hc:s.can=true) (ho:mP s.ts) (_hU:∀ n∈s.ns,n<M) (hx:x.length≤1000000) (w0:World) (hK:Knows [(g,(cL #[.slice s.ta s.ts.length s.tc,.slice s.ka s.ns.length s.kc] 113))] w0) (hP:dL (fun b=>b∈([(g,(cL #[.slice s.ta s.ts.length s.tc,.slice s.ka s.ns.length s.kc] 113))]:List (Nat × Obj)).map (·.1)) (fun w=>bM w s.ta s.tc s.ts∧Us w s.ka s.kc s.ns∧True) w0) (ih:NextC g s.go x s1):Calls Tryz.prog 80 #[pt g] w0 (fun ε w'=>∃ α κ,ε=.returned (.tuple #[.slice α (hsB s.fst.h x).length κ,.int .i64 0])∧nN (fun b=>b∈([(g,(cL #[.slice s.ta s.ts.length s.tc,.slice s.ka s.ns.length s.kc] 113))]:List (Nat × Obj)).map (·.1)) w0 w'∧Knows [(g,(cL #[.slice s1.ta s1.ts.length s1.tc,.slice s1.ka s1.ns.length s1.kc] 113))] w'∧Fs w0 w' α κ (hsB s.fst.h x)):=by
 refine Calls.of_okW (n:=97) (F:=(fun w=>bM w s.ta s.tc s.ts∧Us w s.ka s.kc s.ns∧True)) [(g,(cL #[.slice s.ta s.ts.length s.tc,.slice s.ka s.ns.length s.kc] 113))] Tryz.func80 rfl rfl rfl (by simp) hK (by simp) hP ?_
 refine jJ Tryz.f80 2 [0,2,3] [vz,vi 0] ?_
 refine sS Tryz.f80 8 [0,2,3,4] [] (fun ρ=>[pt g,pt g,pt g,.slice s.ta s.ts.length s.tc,.pointer (fK s.ta (0*36)),.agg (bW.row (gT s.ts 0)),pt (nb ρ 6),undef]) (fun ρ=>[(6,(nw ρ 6 (cL (iC 0 0 0 0 vz) 60))),(7,(bD 49 (nb ρ 6) (cL (bW.row (gT s.ts 0)) 60)))]) (cR [[],[],[],[0]]<|cX (qF (fun _ _ _ hG=>bM.idx (k:=.i64) Tryz.underlying24 Tryz.sizeOf60 hG.fn.1 rfl (show (0:Int)=((0:Nat):Int) from rfl) (show 0<s.ts.length from eX hc)))<|cX (qF (fun _ _ _ hG=>bM.ldA (i:=0) Tryz.isAgg60 Tryz.sizeOf60 hG.fn.1 (show 0<s.ts.length from eX hc)))<|jE [[],[49]]) (fun ρ2=>?_)
 refine iZ Tryz.f80 9 [0,2,3,4] [] (fun _=>[pt g,pt g,pt g,pt g,.slice s.ta s.ts.length s.tc,.slice (jA s.ta s.tc 1 36) s.ts.tail.length (s.tc-1),pt g,pt g,undef]) (fun _=>[(8,(bD 0 g (cL #[.slice (jA s.ta s.tc 1 36) s.ts.tail.length (s.tc-1),.slice s.ka s.ns.length s.kc] 113)))]) (fun _=>[(5,fun w=>bM w (jA s.ta s.tc 1 36) (s.tc-1) s.ts.tail)]) (fun _=>(fun w=>bM w s.ta s.tc s.ts∧Us w s.ka s.kc s.ns∧bM w (jA s.ta s.tc 1 36) (s.tc-1) s.ts.tail∧True)) (fun _=>True) (fun _ _ hF hf=>⟨⟨hF.1,hF.2.1,hf 5,trivial⟩,trivial⟩) (cR [[],[],[],[],[0]]<|cX (jF (fun _=>Instr.sliceAt 24 (.slice s.ta s.ts.length s.tc) (some (vi 1)) none none) (fun _=>(.slice (jA s.ta s.tc 1 36) s.ts.tail.length (s.tc-1))) (fun _ _ _ hG=>fP (k:=1) Tryz.underlying24 Tryz.sizeOf60 rfl (jI (rfl)) (eX hc) hG.fn.1.le (by rw [List.length_tail])) (fun _ _ w hG=>hG.facts0.mono (fun _ hF=>hF.1.tail (eX hc))))<|jE [[],[],[0]]) (fun _ _=>?_)
 refine sDf Tryz.f80 [0,1,3,7,0,16,48,127,255] 9 [0,2,3,4,5] [] (fun _=>let qa:Value:=.slice s.ka (s.ns.take (gT s.ts 0).ks.length).length s.kc;[pt g,pt g,jp g 1,.slice s.ka s.ns.length s.kc,jp (nb ρ2 6) 35,.slice (gT s.ts 0).ka (gT s.ts 0).ks.length (gT s.ts 0).kc,vn (gT s.ts 0).ks.length,qa,qa]) (fun _=>[]) (fun _=>[(7,fun w=>Us w s.ka s.kc (s.ns.take (gT s.ts 0).ks.length))]) (fun _=>(fun w=>bM w s.ta s.tc s.ts∧Us w s.ka s.kc s.ns∧bM w (jA s.ta s.tc 1 36) (s.tc-1) s.ts.tail∧Us w s.ka s.kc (s.ns.take (gT s.ts 0).ks.length)∧True)) (fun _=>True) (fun _ _ hF hf=>⟨⟨hF.1,hF.2.1,hF.2.2.1,hf 7,trivial⟩,trivial⟩) (cR [[],[],[],[0],[],[1],[]]<|cX (jF (fun _=>Instr.sliceAt 80 (.slice s.ka s.ns.length s.kc) none (some (vn (gT s.ts 0).ks.length)) none) (fun _=>(.slice s.ka (s.ns.take (gT s.ts 0).ks.length).length s.kc)) (fun _ _ _ hG=>pY (k:=(gT s.ts 0).ks.length) Tryz.underlying80 Tryz.sizeOf64 rfl (jI (rfl)) (fE hc) hG.fn.2.1.le (by rw [List.length_take];exact (Nat.min_eq_left (fE hc)).symm)) (fun _ _ w hG=>hG.facts0.mono (fun _ hF=>hF.2.1.take (gT s.ts 0).ks.length)))<|jE [[]]) (fun _ _=>?_)
 refine sDf Tryz.f80 [0,0,2,6,14,0,32,96,254,511,1023,2047] 12 [0,2,3,4,5] [] (fun _=>[pt g,pt g,pt g,jp g 1,.slice s.ka s.ns.length s.kc,jp (nb ρ2 6) 35,.slice (gT s.ts 0).ka (gT s.ts 0).ks.length (gT s.ts 0).kc,vn (gT s.ts 0).ks.length,.slice (jA s.ka s.kc (gT s.ts 0).ks.length 4) (s.ns.drop (gT s.ts 0).ks.length).length (s.kc-(gT s.ts 0).ks.length),pt g,jp g 1,undef]) (fun _=>[(11,(bD 0 g (cL #[.slice (jA s.ta s.tc 1 36) s.ts.tail.length (s.tc-1),.slice (jA s.ka s.kc (gT s.ts 0).ks.length 4) (s.ns.drop (gT s.ts 0).ks.length).length (s.kc-(gT s.ts 0).ks.length)] 113)))]) (fun _=>[(8,fun w=>Us w (jA s.ka s.kc (gT s.ts 0).ks.length 4) (s.kc-(gT s.ts 0).ks.length) (s.ns.drop (gT s.ts 0).ks.length))]) (fun _=>(fun w=>bM w s.ta s.tc s.ts∧Us w s.ka s.kc s.ns∧bM w (jA s.ta s.tc 1 36) (s.tc-1) s.ts.tail∧Us w s.ka s.kc (s.ns.take (gT s.ts 0).ks.length)∧Us w (jA s.ka s.kc (gT s.ts 0).ks.length 4) (s.kc-(gT s.ts 0).ks.length) (s.ns.drop (gT s.ts 0).ks.length)∧True)) (fun _=>True) (fun _ _ hF hf=>⟨⟨hF.1,hF.2.1,hF.2.2.1,hF.2.2.2.1,hf 8,trivial⟩,trivial⟩) (cR [[],[],[],[],[0],[],[1],[]]<|cX (jF (fun _=>Instr.sliceAt 80 (.slice s.ka s.ns.length s.kc) (some (vn (gT s.ts 0).ks.length)) none none) (fun _=>(.slice (jA s.ka s.kc (gT s.ts 0).ks.length 4) (s.ns.drop (gT s.ts 0).ks.length).length (s.kc-(gT s.ts 0).ks.length))) (fun _ _ _ hG=>fP (k:=(gT s.ts 0).ks.length) Tryz.underlying80 Tryz.sizeOf64 rfl (jI (rfl)) (fE hc) hG.fn.2.1.le (by rw [List.length_drop])) (fun _ _ w hG=>hG.facts0.mono (fun _ hF=>hF.2.1.drop (fE hc))))<|jE [[],[],[0]]) (fun _ _=>?_)
 refine aB (jM Tryz.f80 2 [0,2,3,4,5,43] [] [pt (nb ρ2 6),vi (gT s.ts 0).kd] [[],[1]] (aI ?_))
 refine sS Tryz.f80 2 [0,2,3,4,5,43,44] [] (fun _=>[vF,vF]) (fun _=>[]) (jQ (fun ρ=>((gT s.ts 0).kd==1)) false (fun _=>(jK hk rfl))<|jE [[]]) (fun _=>?_)
 refine lK [(0,(pt g)),(2,vz),(3,(vi 0)),(4,(pt (nb ρ2 6))),(5,(.slice s.ka (s.ns.take (gT s.ts 0).ks.length).length s.kc)),(43,(vi (gT s.ts 0).kd)),(44,vF)] [(g,(cL #[.slice (jA s.ta s.tc 1 36) s.ts.tail.length (s.tc-1),.slice (jA s.ka s.kc (gT s.ts 0).ks.length 4) (s.ns.drop (gT s.ts 0).ks.length).length (s.kc-(gT s.ts 0).ks.length)] 113)),(nb ρ2 6,(cL (bW.row (gT s.ts 0)) 60))] ?_
 refine oN ?_
 refine sS Tryz.f80 2 [0,2,3,4,5,50] [] (fun _=>[vF,vF]) (fun _=>[]) (jQ (fun ρ=>((gT s.ts 0).kd==2)) false (fun _=>(jK hk rfl))<|jE [[]]) (fun _=>?_)
 refine oN ?_
 refine aG (aJ (aA ?_))
 refine iZ Tryz.f80 7 [0,2,3,4,6,7] [] (fun ρ=>let qa:Value:=.slice (oa ρ 1) x.length (nb ρ 1);[pt g,.tuple #[qa,vi 0],.tuple #[qa,vi 0],qa,vi 0,qa,vi 0]) (fun _=>[(1,(bD 0 g (cL #[.slice s1.ta s1.ts.length s1.tc,.slice s1.ka s1.ns.length s1.kc] 113)))]) (fun ρ=>[(1,fun w=>Fs w0 w (oa ρ 1) (nb ρ 1) x)]) (fun ρ=>(fun w=>bM w s.ta s.tc s.ts∧Us w s.ka s.kc s.ns∧bM w (jA s.ta s.tc 1 36) (s.tc-1) s.ts.tail∧Us w s.ka s.kc (s.ns.take (gT s.ts 0).ks.length)∧Us w (jA s.ka s.kc (gT s.ts 0).ks.length 4) (s.kc-(gT s.ts 0).ks.length) (s.ns.drop (gT s.ts 0).ks.length)∧Fs w0 w (oa ρ 1) (nb ρ 1) x∧True)) (fun _=>True) (fun _ _ hF hf=>⟨⟨hF.1,hF.2.1,hF.2.2.1,hF.2.2.2.1,hF.2.2.2.2.1,hf 1,trivial⟩,trivial⟩) (cR [[]]<|cX (qWB [0] (fun _ _ w hG hK=>ih w hK (hG.pK [0] (fun _ hF=>⟨hF.2.2.1,hF.2.2.2.2.1,trivial⟩))))<|jE [[],[],[],[],[]]) (fun ρ9 _=>?_)
 refine aB (jJ Tryz.f80 2 [0,2,3,4,6,7,64] [vi 0,vF] ?_)
 refine oN ?_
 refine aG (aA (aB (jM Tryz.f80 2 [0,2,3,4,6,7,67] [] [pt (nb ρ2 6),vi (gT s.ts 0).kd] [[],[1]] (aI ?_))))
 refine sS Tryz.f80 2 [0,2,3,4,6,7,67,68] [] (fun _=>[vF,vF]) (fun _=>[]) (jQ (fun ρ=>((gT s.ts 0).kd==3)) false (fun _=>(jK hk rfl))<|jE [[]]) (fun _=>?_)
 refine oN ?_
 refine sS Tryz.f80 2 [0,2,3,4,6,7,67,74] [] (fun _=>[vF,vF]) (fun _=>[]) (jQ (fun ρ=>((gT s.ts 0).kd==4)) false (fun _=>(jK hk rfl))<|jE [[]]) (fun _=>?_)
 refine oN ?_
 refine sS Tryz.f80 2 [0,2,3,4,6,7,80] [] (fun _=>[vT,vT]) (fun _=>[]) (jQ (fun ρ=>((gT s.ts 0).kd==5)) true (fun _=>(jK hk rfl))<|jE [[]]) (fun _=>?_)
 refine lK [(0,(pt g)),(2,vz),(3,(vi 0)),(4,(pt (nb ρ2 6))),(6,(.slice (oa ρ9 1) x.length (nb ρ9 1))),(7,(vi 0)),(80,vT)] [(g,(cL #[.slice s1.ta s1.ts.length s1.tc,.slice s1.ka s1.ns.length s1.kc] 113)),(nb ρ2 6,(cL (bW.row (gT s.ts 0)) 60))] ?_
 refine oY ?_
 refine iZ Tryz.f80 6 [0,2,3,6,7] [1,0] (fun ρ=>let qa:Value:=.slice (oa ρ 3) (hsB (gT s.ts 0).h x).length (nb ρ 3);[jp (nb ρ2 6) 3,.agg (hB (gT s.ts 0).h),.slice (oa ρ9 1) x.length (nb ρ9 1),qa,qa,vi 0]) (fun _=>[]) (fun ρ=>[(3,fun w=>Fs w0 w (oa ρ 3) (nb ρ 3) (hsB (gT s.ts 0).h x))]) (fun ρ=>(fun w=>bM w s.ta s.tc s.ts∧Us w s.ka s.kc s.ns∧bM w (jA s.ta s.tc 1 36) (s.tc-1) s.ts.tail∧Us w s.ka s.kc (s.ns.take (gT s.ts 0).ks.length)∧Us w (jA s.ka s.kc (gT s.ts 0).ks.length 4) (s.kc-(gT s.ts 0).ks.length) (s.ns.drop (gT s.ts 0).ks.length)∧Fs w0 w (oa ρ9 1) (nb ρ9 1) x∧Fs w0 w (oa ρ 3) (nb ρ 3) (hsB (gT s.ts 0).h x)∧True)) (fun _=>True) (fun _ _ hF hf=>⟨⟨hF.1,hF.2.1,hF.2.2.1,hF.2.2.2.1,hF.2.2.2.2.1,hF.2.2.2.2.2.1,hf 3,trivial⟩,trivial⟩) (cR [[],[1],[]]<|cX (qB (fun _ _ w hG=>hashed_any (gT s.ts 0).h (oa ρ9 1) (nb ρ9 1) x (ho.gT 0).h hx w hG.fn.2.2.2.2.2.1.1))<|jE [[],[]]) (fun ρ15 _=>?_)
 refine aF (aP (aC (mD [(0,(pt g)),(2,(.slice (oa ρ15 3) (hsB (gT s.ts 0).h x).length (nb ρ15 3))),(3,(vi 0)),(6,(.slice (oa ρ9 1) x.length (nb ρ9 1))),(7,(vi 0))] [(g,(cL #[.slice s1.ta s1.ts.length s1.tc,.slice s1.ka s1.ns.length s1.kc] 113))] ?_)))
 exact mR (v:=(.tuple #[.slice (oa ρ15 3) (hsB (gT s.ts 0).h x).length (nb ρ15 3),vi 0])) (fun _ hS=>⟨oa ρ15 3,nb ρ15 3,rfl,hS.below,hS.knows [1],dU (rfl) hS.facts.now.2.2.2.2.2.2.1⟩)
theorem next6_any (g:Nat) (s:Mk) (x:List UInt8) (s1:Mk) (y:List UInt8) (s2:Mk) (hk:s.fst.kd=6) (hc:s.can=true) (_ho:mP s.ts) (_hU:∀ n∈s.ns,n<M) (hx:x.length≤1000000) (hy:y.length≤1000000) (w0:World) (hK:Knows [(g,(cL #[.slice s.ta s.ts.length s.tc,.slice s.ka s.ns.length s.kc] 113))] w0) (hP:dL (fun b=>b∈([(g,(cL #[.slice s.ta s.ts.length s.tc,.slice s.ka s.ns.length s.kc] 113))]:List (Nat × Obj)).map (·.1)) (fun w=>bM w s.ta s.tc s.ts∧Us w s.ka s.kc s.ns∧bM w s1.ta s1.tc s1.ts∧Us w s1.ka s1.kc s1.ns∧True) w0) (ih:NextC g s.go x s1) (ih2:NextC g s1 y s2):Calls Tryz.prog 80 #[pt g] w0 (fun ε w'=>∃ α κ,ε=.returned (.tuple #[.slice α (eiB x y).length κ,.int .i64 0])∧nN (fun b=>b∈([(g,(cL #[.slice s.ta s.ts.length s.tc,.slice s.ka s.ns.length s.kc] 113))]:List (Nat × Obj)).map (·.1)) w0 w'∧Knows [(g,(cL #[.slice s2.ta s2.ts.length s2.tc,.slice s2.ka s2.ns.length s2.kc] 113))] w'∧Fs w0 w' α κ (eiB x y)):=by
 refine Calls.of_okW (n:=97) (F:=(fun w=>bM w s.ta s.tc s.ts∧Us w s.ka s.kc s.ns∧bM w s1.ta s1.tc s1.ts∧Us w s1.ka s1.kc s1.ns∧True)) [(g,(cL #[.slice s.ta s.ts.length s.tc,.slice s.ka s.ns.length s.kc] 113))] Tryz.func80 rfl rfl rfl (by simp) hK (by simp) hP ?_
 refine jJ Tryz.f80 2 [0,2,3] [vz,vi 0] ?_
 refine sS Tryz.f80 8 [0,2,3,4] [] (fun ρ=>[pt g,pt g,pt g,.slice s.ta s.ts.length s.tc,.pointer (fK s.ta (0*36)),.agg (bW.row (gT s.ts 0)),pt (nb ρ 6),undef]) (fun ρ=>[(6,(nw ρ 6 (cL (iC 0 0 0 0 vz) 60))),(7,(bD 49 (nb ρ 6) (cL (bW.row (gT s.ts 0)) 60)))]) (cR [[],[],[],[0]]<|cX (qF (fun _ _ _ hG=>bM.idx (k:=.i64) Tryz.underlying24 Tryz.sizeOf60 hG.fn.1 rfl (show (0:Int)=((0:Nat):Int) from rfl) (show 0<s.ts.length from eX hc)))<|cX (qF (fun _ _ _ hG=>bM.ldA (i:=0) Tryz.isAgg60 Tryz.sizeOf60 hG.fn.1 (show 0<s.ts.length from eX hc)))<|jE [[],[49]]) (fun ρ2=>?_)
 refine iZ Tryz.f80 9 [0,2,3,4] [] (fun _=>[pt g,pt g,pt g,pt g,.slice s.ta s.ts.length s.tc,.slice (jA s.ta s.tc 1 36) s.ts.tail.length (s.tc-1),pt g,pt g,undef]) (fun _=>[(8,(bD 0 g (cL #[.slice (jA s.ta s.tc 1 36) s.ts.tail.length (s.tc-1),.slice s.ka s.ns.length s.kc] 113)))]) (fun _=>[(5,fun w=>bM w (jA s.ta s.tc 1 36) (s.tc-1) s.ts.tail)]) (fun _=>(fun w=>bM w s.ta s.tc s.ts∧Us w s.ka s.kc s.ns∧bM w s1.ta s1.tc s1.ts∧Us w s1.ka s1.kc s1.ns∧bM w (jA s.ta s.tc 1 36) (s.tc-1) s.ts.tail∧True)) (fun _=>True) (fun _ _ hF hf=>⟨⟨hF.1,hF.2.1,hF.2.2.1,hF.2.2.2.1,hf 5,trivial⟩,trivial⟩) (cR [[],[],[],[],[0]]<|cX (jF (fun _=>Instr.sliceAt 24 (.slice s.ta s.ts.length s.tc) (some (vi 1)) none none) (fun _=>(.slice (jA s.ta s.tc 1 36) s.ts.tail.length (s.tc-1))) (fun _ _ _ hG=>fP (k:=1) Tryz.underlying24 Tryz.sizeOf60 rfl (jI (rfl)) (eX hc) hG.fn.1.le (by rw [List.length_tail])) (fun _ _ w hG=>hG.facts0.mono (fun _ hF=>hF.1.tail (eX hc))))<|jE [[],[],[0]]) (fun _ _=>?_)
 refine sDf Tryz.f80 [0,1,3,7,0,16,48,127,255] 9 [0,2,3,4,5] [] (fun _=>let qa:Value:=.slice s.ka (s.ns.take (gT s.ts 0).ks.length).length s.kc;[pt g,pt g,jp g 1,.slice s.ka s.ns.length s.kc,jp (nb ρ2 6) 35,.slice (gT s.ts 0).ka (gT s.ts 0).ks.length (gT s.ts 0).kc,vn (gT s.ts 0).ks.length,qa,qa]) (fun _=>[]) (fun _=>[(7,fun w=>Us w s.ka s.kc (s.ns.take (gT s.ts 0).ks.length))]) (fun _=>(fun w=>bM w s.ta s.tc s.ts∧Us w s.ka s.kc s.ns∧bM w s1.ta s1.tc s1.ts∧Us w s1.ka s1.kc s1.ns∧bM w (jA s.ta s.tc 1 36) (s.tc-1) s.ts.tail∧Us w s.ka s.kc (s.ns.take (gT s.ts 0).ks.length)∧True)) (fun _=>True) (fun _ _ hF hf=>⟨⟨hF.1,hF.2.1,hF.2.2.1,hF.2.2.2.1,hF.2.2.2.2.1,hf 7,trivial⟩,trivial⟩) (cR [[],[],[],[0],[],[1],[]]<|cX (jF (fun _=>Instr.sliceAt 80 (.slice s.ka s.ns.length s.kc) none (some (vn (gT s.ts 0).ks.length)) none) (fun _=>(.slice s.ka (s.ns.take (gT s.ts 0).ks.length).length s.kc)) (fun _ _ _ hG=>pY (k:=(gT s.ts 0).ks.length) Tryz.underlying80 Tryz.sizeOf64 rfl (jI (rfl)) (fE hc) hG.fn.2.1.le (by rw [List.length_take];exact (Nat.min_eq_left (fE hc)).symm)) (fun _ _ w hG=>hG.facts0.mono (fun _ hF=>hF.2.1.take (gT s.ts 0).ks.length)))<|jE [[]]) (fun _ _=>?_)
 refine sDf Tryz.f80 [0,0,2,6,14,0,32,96,254,511,1023,2047] 12 [0,2,3,4,5] [] (fun _=>[pt g,pt g,pt g,jp g 1,.slice s.ka s.ns.length s.kc,jp (nb ρ2 6) 35,.slice (gT s.ts 0).ka (gT s.ts 0).ks.length (gT s.ts 0).kc,vn (gT s.ts 0).ks.length,.slice (jA s.ka s.kc (gT s.ts 0).ks.length 4) (s.ns.drop (gT s.ts 0).ks.length).length (s.kc-(gT s.ts 0).ks.length),pt g,jp g 1,undef]) (fun _=>[(11,(bD 0 g (cL #[.slice (jA s.ta s.tc 1 36) s.ts.tail.length (s.tc-1),.slice (jA s.ka s.kc (gT s.ts 0).ks.length 4) (s.ns.drop (gT s.ts 0).ks.length).length (s.kc-(gT s.ts 0).ks.length)] 113)))]) (fun _=>[(8,fun w=>Us w (jA s.ka s.kc (gT s.ts 0).ks.length 4) (s.kc-(gT s.ts 0).ks.length) (s.ns.drop (gT s.ts 0).ks.length))]) (fun _=>(fun w=>bM w s.ta s.tc s.ts∧Us w s.ka s.kc s.ns∧bM w s1.ta s1.tc s1.ts∧Us w s1.ka s1.kc s1.ns∧bM w (jA s.ta s.tc 1 36) (s.tc-1) s.ts.tail∧Us w s.ka s.kc (s.ns.take (gT s.ts 0).ks.length)∧Us w (jA s.ka s.kc (gT s.ts 0).ks.length 4) (s.kc-(gT s.ts 0).ks.length) (s.ns.drop (gT s.ts 0).ks.length)∧True)) (fun _=>True) (fun _ _ hF hf=>⟨⟨hF.1,hF.2.1,hF.2.2.1,hF.2.2.2.1,hF.2.2.2.2.1,hF.2.2.2.2.2.1,hf 8,trivial⟩,trivial⟩) (cR [[],[],[],[],[0],[],[1],[]]<|cX (jF (fun _=>Instr.sliceAt 80 (.slice s.ka s.ns.length s.kc) (some (vn (gT s.ts 0).ks.length)) none none) (fun _=>(.slice (jA s.ka s.kc (gT s.ts 0).ks.length 4) (s.ns.drop (gT s.ts 0).ks.length).length (s.kc-(gT s.ts 0).ks.length))) (fun _ _ _ hG=>fP (k:=(gT s.ts 0).ks.length) Tryz.underlying80 Tryz.sizeOf64 rfl (jI (rfl)) (fE hc) hG.fn.2.1.le (by rw [List.length_drop])) (fun _ _ w hG=>hG.facts0.mono (fun _ hF=>hF.2.1.drop (fE hc))))<|jE [[],[],[0]]) (fun _ _=>?_)
 refine aB (jM Tryz.f80 2 [0,2,3,4,5,43] [] [pt (nb ρ2 6),vi (gT s.ts 0).kd] [[],[1]] (aI ?_))
 refine sS Tryz.f80 2 [0,2,3,4,5,43,44] [] (fun _=>[vF,vF]) (fun _=>[]) (jQ (fun ρ=>((gT s.ts 0).kd==1)) false (fun _=>(jK hk rfl))<|jE [[]]) (fun _=>?_)
 refine lK [(0,(pt g)),(2,vz),(3,(vi 0)),(4,(pt (nb ρ2 6))),(5,(.slice s.ka (s.ns.take (gT s.ts 0).ks.length).length s.kc)),(43,(vi (gT s.ts 0).kd)),(44,vF)] [(g,(cL #[.slice (jA s.ta s.tc 1 36) s.ts.tail.length (s.tc-1),.slice (jA s.ka s.kc (gT s.ts 0).ks.length 4) (s.ns.drop (gT s.ts 0).ks.length).length (s.kc-(gT s.ts 0).ks.length)] 113)),(nb ρ2 6,(cL (bW.row (gT s.ts 0)) 60))] ?_
 refine oN ?_
 refine sS Tryz.f80 2 [0,2,3,4,5,50] [] (fun _=>[vF,vF]) (fun _=>[]) (jQ (fun ρ=>((gT s.ts 0).kd==2)) false (fun _=>(jK hk rfl))<|jE [[]]) (fun _=>?_)
 refine oN ?_
 refine aG (aJ (aA ?_))
 refine iZ Tryz.f80 7 [0,2,3,4,6,7] [] (fun ρ=>let qa:Value:=.slice (oa ρ 1) x.length (nb ρ 1);[pt g,.tuple #[qa,vi 0],.tuple #[qa,vi 0],qa,vi 0,qa,vi 0]) (fun _=>[(1,(bD 0 g (cL #[.slice s1.ta s1.ts.length s1.tc,.slice s1.ka s1.ns.length s1.kc] 113)))]) (fun ρ=>[(1,fun w=>Fs w0 w (oa ρ 1) (nb ρ 1) x)]) (fun ρ=>(fun w=>bM w s.ta s.tc s.ts∧Us w s.ka s.kc s.ns∧bM w s1.ta s1.tc s1.ts∧Us w s1.ka s1.kc s1.ns∧bM w (jA s.ta s.tc 1 36) (s.tc-1) s.ts.tail∧Us w s.ka s.kc (s.ns.take (gT s.ts 0).ks.length)∧Us w (jA s.ka s.kc (gT s.ts 0).ks.length 4) (s.kc-(gT s.ts 0).ks.length) (s.ns.drop (gT s.ts 0).ks.length)∧Fs w0 w (oa ρ 1) (nb ρ 1) x∧True)) (fun _=>True) (fun _ _ hF hf=>⟨⟨hF.1,hF.2.1,hF.2.2.1,hF.2.2.2.1,hF.2.2.2.2.1,hF.2.2.2.2.2.1,hF.2.2.2.2.2.2.1,hf 1,trivial⟩,trivial⟩) (cR [[]]<|cX (qWB [0] (fun _ _ w hG hK=>ih w hK (hG.pK [0] (fun _ hF=>⟨hF.2.2.2.2.1,hF.2.2.2.2.2.2.1,trivial⟩))))<|jE [[],[],[],[],[]]) (fun ρ9 _=>?_)
 refine aB (jJ Tryz.f80 2 [0,2,3,4,6,7,64] [vi 0,vF] ?_)
 refine oN ?_
 refine aG (aA (aB (jM Tryz.f80 2 [0,2,3,4,6,7,67] [] [pt (nb ρ2 6),vi (gT s.ts 0).kd] [[],[1]] (aI ?_))))
 refine sS Tryz.f80 2 [0,2,3,4,6,7,67,68] [] (fun _=>[vF,vF]) (fun _=>[]) (jQ (fun ρ=>((gT s.ts 0).kd==3)) false (fun _=>(jK hk rfl))<|jE [[]]) (fun _=>?_)
 refine oN ?_
 refine sS Tryz.f80 2 [0,2,3,4,6,7,67,74] [] (fun _=>[vF,vF]) (fun _=>[]) (jQ (fun ρ=>((gT s.ts 0).kd==4)) false (fun _=>(jK hk rfl))<|jE [[]]) (fun _=>?_)
 refine oN ?_
 refine sS Tryz.f80 2 [0,2,3,4,6,7,80] [] (fun _=>[vF,vF]) (fun _=>[]) (jQ (fun ρ=>((gT s.ts 0).kd==5)) false (fun _=>(jK hk rfl))<|jE [[]]) (fun _=>?_)
 refine lK [(0,(pt g)),(2,vz),(3,(vi 0)),(4,(pt (nb ρ2 6))),(6,(.slice (oa ρ9 1) x.length (nb ρ9 1))),(7,(vi 0)),(80,vF)] [(g,(cL #[.slice s1.ta s1.ts.length s1.tc,.slice s1.ka s1.ns.length s1.kc] 113)),(nb ρ2 6,(cL (bW.row (gT s.ts 0)) 60))] ?_
 refine oN ?_
 refine aG (aJ (aA ?_))
 refine iZ Tryz.f80 7 [2,3,6,7,8] [1,0] (fun ρ=>let qa:Value:=.slice (oa ρ 1) y.length (nb ρ 1);[pt g,.tuple #[qa,vi 0],.tuple #[qa,vi 0],qa,vi 0,qa,vi 0]) (fun _=>[(1,(bD 0 g (cL #[.slice s2.ta s2.ts.length s2.tc,.slice s2.ka s2.ns.length s2.kc] 113)))]) (fun ρ=>[(1,fun w=>Fs w0 w (oa ρ 1) (nb ρ 1) y)]) (fun ρ=>(fun w=>bM w s.ta s.tc s.ts∧Us w s.ka s.kc s.ns∧bM w s1.ta s1.tc s1.ts∧Us w s1.ka s1.kc s1.ns∧bM w (jA s.ta s.tc 1 36) (s.tc-1) s.ts.tail∧Us w s.ka s.kc (s.ns.take (gT s.ts 0).ks.length)∧Us w (jA s.ka s.kc (gT s.ts 0).ks.length 4) (s.kc-(gT s.ts 0).ks.length) (s.ns.drop (gT s.ts 0).ks.length)∧Fs w0 w (oa ρ9 1) (nb ρ9 1) x∧Fs w0 w (oa ρ 1) (nb ρ 1) y∧True)) (fun _=>True) (fun _ _ hF hf=>⟨⟨hF.1,hF.2.1,hF.2.2.1,hF.2.2.2.1,hF.2.2.2.2.1,hF.2.2.2.2.2.1,hF.2.2.2.2.2.2.1,hF.2.2.2.2.2.2.2.1,hf 1,trivial⟩,trivial⟩) (cR [[]]<|cX (qWB [0] (fun _ _ w hG hK=>ih2 w hK (hG.pK [0] (fun _ hF=>⟨hF.2.2.1,hF.2.2.2.1,trivial⟩))))<|jE [[],[],[],[],[]]) (fun ρ15 _=>?_)
 refine aB (jJ Tryz.f80 2 [2,3,6,7,8,92] [vi 0,vF] ?_)
 refine oN ?_
 refine aG (aA ?_)
 refine iZ Tryz.f80 5 [2,3] [] (fun ρ=>let qa:Value:=.slice (oa ρ 2) (eiB x y).length (nb ρ 2);[.slice (oa ρ9 1) x.length (nb ρ9 1),.slice (oa ρ15 1) y.length (nb ρ15 1),qa,qa,vi 0]) (fun _=>[]) (fun ρ=>[(2,fun w=>Fs w0 w (oa ρ 2) (nb ρ 2) (eiB x y))]) (fun ρ=>(fun w=>bM w s.ta s.tc s.ts∧Us w s.ka s.kc s.ns∧bM w s1.ta s1.tc s1.ts∧Us w s1.ka s1.kc s1.ns∧bM w (jA s.ta s.tc 1 36) (s.tc-1) s.ts.tail∧Us w s.ka s.kc (s.ns.take (gT s.ts 0).ks.length)∧Us w (jA s.ka s.kc (gT s.ts 0).ks.length 4) (s.kc-(gT s.ts 0).ks.length) (s.ns.drop (gT s.ts 0).ks.length)∧Fs w0 w (oa ρ9 1) (nb ρ9 1) x∧Fs w0 w (oa ρ15 1) (nb ρ15 1) y∧Fs w0 w (oa ρ 2) (nb ρ 2) (eiB x y)∧True)) (fun _=>True) (fun _ _ hF hf=>⟨⟨hF.1,hF.2.1,hF.2.2.1,hF.2.2.2.1,hF.2.2.2.2.1,hF.2.2.2.2.2.1,hF.2.2.2.2.2.2.1,hF.2.2.2.2.2.2.2.1,hF.2.2.2.2.2.2.2.2.1,hf 2,trivial⟩,trivial⟩) (cR [[],[]]<|cX (qB (fun _ _ w hG=>either_any (oa ρ9 1) (nb ρ9 1) x (oa ρ15 1) (nb ρ15 1) y hx hy w hG.fn.2.2.2.2.2.2.2.1.1 hG.fn.2.2.2.2.2.2.2.2.1.1))<|jE [[],[]]) (fun ρ17 _=>?_)
 refine aF (mD [(2,(.slice (oa ρ17 2) (eiB x y).length (nb ρ17 2))),(3,(vi 0))] [(g,(cL #[.slice s2.ta s2.ts.length s2.tc,.slice s2.ka s2.ns.length s2.kc] 113))] ?_)
 exact mR (v:=(.tuple #[.slice (oa ρ17 2) (eiB x y).length (nb ρ17 2),vi 0])) (fun _ hS=>⟨oa ρ17 2,nb ρ17 2,rfl,hS.below,hS.knows [1],dU (rfl) hS.facts.now.2.2.2.2.2.2.2.2.2.1⟩)
theorem next_all (g:Nat):∀ (f:Nat) (s:Mk) (b:List UInt8) (s':Mk),f≤8→nx f s=some (b,s')→(∀ t∈s.ts,t.kd=2→t.ks.length=2)→NextC g s b s'
  | 0,_,_,_,_,h,_=>by simp [nx] at h
  | f + 1, s, b, s', hf, h, h2 => by
    intro w0 hK hP
    have ho:=hP.now.1.oks
    have hU:=hP.now.2.1.ok
    have hp:2^f≤2^7:=Nat.pow_le_pow_right (by decide) (by omega)
    have big:∀ {x:List UInt8} {s s1:Mk},nx f s=some (x,s1)→x.length≤1000000:=fun h=>by have:=nx_len f _ _ _ h;omega
    unfold nx at h
    split at h
    · exact absurd h (by simp)
    rename_i hc
    have hc:s.can=true:=by simpa using hc
    have hg:=Left.go hc
    split at h
    · rename_i hk
      simp only [Option.some.injEq,Prod.mk.injEq] at h;rw [← h.1,← h.2]
      exact next1_any g s hk hc ho hU w0 hK hP
    split at h
    · rename_i hk
      simp only [Option.some.injEq,Prod.mk.injEq] at h;rw [← h.1,← h.2]
      exact next2_any g s hk hc ho hU (h2 _ (fA (eX hc)) hk) w0 hK hP
    split at h
    · exact absurd h (by simp)
    rename_i a s1 e1
    have i1:=next_all g f _ _ _ (by omega) e1 fun t ht=>h2 t (hg.m t ht)
    have l1:=hg.trans (nx_left f _ _ _ e1)
    split at h
    · rename_i hk
      simp only [Option.some.injEq,Prod.mk.injEq] at h;rw [← h.1,← h.2]
      exact next3_any g s a s1 hk hc ho hU (big e1) w0 hK hP i1
    split at h
    · rename_i hk
      simp only [Option.some.injEq,Prod.mk.injEq] at h;rw [← h.1,← h.2]
      exact next4_any g s a s1 hk hc ho hU (big e1) w0 hK hP i1
    split at h
    · rename_i hk
      simp only [Option.some.injEq,Prod.mk.injEq] at h;rw [← h.1,← h.2]
      exact next5_any g s a s1 hk hc ho hU (big e1) w0 hK hP i1
    split at h
    · rename_i hk
      split at h
      · exact absurd h (by simp)
      rename_i b2 s2 e2
      have i2:=next_all g f _ _ _ (by omega) e2 fun t ht=>h2 t (l1.m t ht)
      simp only [Option.some.injEq,Prod.mk.injEq] at h;rw [← h.1,← h.2]
      exact next6_any g s a s1 b2 s2 hk hc ho hU (big e1) (big e2) w0 hK (hP.mono fun w hw=>⟨hw.1,hw.2.1,l1.t w hw.1,l1.u w hw.2.1,trivial⟩) i1 i2
    · exact absurd h (by simp)
theorem nextx_any {g:Nat} {a b:Option Addr} {c d:Nat} {ts:List bW} {z:Int} (h0:(kZ ts z != 0)=false) (h2:∀ t∈ts,t.kd=2→t.ks.length=2):NextC g (Mk.mk a c ts b d (gV ts z)) (xP ts z) (nxS (Mk.mk a c ts b d (gV ts z))) :=
  next_all g 8 _ _ _ (Nat.le_refl 8) (nxS_eq (nx_go (dD h0) a c b d)) h2
theorem dkids_any (z:Int) (w0:World):Calls Tryz.prog 75 #[vi z] w0 (jR (vi (nO z)) w0):=by
 refine Calls.of_ok (n:=13) (F:=(fun _=>True)) Tryz.func75 rfl rfl rfl (by simp) jT ?_
 refine jJ Tryz.f75 1 [0,2] [vi 0] (aB (jJ Tryz.f75 1 [2,3] [vi z] (aI (aB (jJ Tryz.f75 2 [2,3,4] [.bool (z==1),.bool (z==1)] ?_)))))
 refine oC (z==1) (fun hb1=>?_) (fun hb1=>?_)
 ·
  rw [hb1]
  refine aG (aA ?_)
  refine oY ?_
  refine jJ Tryz.f75 1 [2] [vi 0] (aF (aP (aC ?_)))
  exact mR (v:=(vi 0)) (fun _ hS=>⟨congrArg (fun x=>Ending.returned (vi x)) (kd_1 (by have:=xQ hb1;omega)),hS.bel⟩)
 rw [hb1]
 refine jL Tryz.f75 2 [2,3,4] [] [.bool (z==2),.bool (z==2)] [[],[]] (aA ?_)
 refine oC (z==2) (fun hb2=>?_) (fun hb2=>?_)
 ·
  rw [hb2]
  refine jJ Tryz.f75 1 [2] [vi 0] (aF (aP (aC ?_)))
  exact mR (v:=(vi 0)) (fun _ hS=>⟨congrArg (fun x=>Ending.returned (vi x)) (kd_1 (by have:=jP hb1;have:=xQ hb2;omega)),hS.bel⟩)
 rw [hb2]
 refine aB (jJ Tryz.f75 2 [2,3,7] [.bool (z==3),.bool (z==3)] ?_)
 refine oC (z==3) (fun hb3=>?_) (fun hb3=>?_)
 ·
  rw [hb3]
  refine aG (aA ?_)
  refine oY ?_
  refine jJ Tryz.f75 1 [2] [vi 1] (aF (aP (aC ?_)))
  exact mR (v:=(vi 1)) (fun _ hS=>⟨congrArg (fun x=>Ending.returned (vi x)) (kd_3 (by have:=jP hb1;have:=jP hb2;have:=xQ hb3;omega)),hS.bel⟩)
 rw [hb3]
 refine jJ Tryz.f75 2 [2,3,7] [.bool (z==4),.bool (z==4)] ?_
 refine oC (z==4) (fun hb4=>?_) (fun hb4=>?_)
 ·
  rw [hb4]
  refine aG (aA ?_)
  refine oY ?_
  refine jJ Tryz.f75 1 [2] [vi 1] (aF (aP (aC ?_)))
  exact mR (v:=(vi 1)) (fun _ hS=>⟨congrArg (fun x=>Ending.returned (vi x)) (kd_3 (by have:=jP hb1;have:=jP hb2;have:=jP hb3;have:=xQ hb4;omega)),hS.bel⟩)
 rw [hb4]
 refine jL Tryz.f75 2 [2,3,7] [] [.bool (z==5),.bool (z==5)] [[],[]] (aA ?_)
 refine oC (z==5) (fun hb5=>?_) (fun hb5=>?_)
 ·
  rw [hb5]
  refine jJ Tryz.f75 1 [2] [vi 1] (aF (aP (aC ?_)))
  exact mR (v:=(vi 1)) (fun _ hS=>⟨congrArg (fun x=>Ending.returned (vi x)) (kd_3 (by have:=jP hb1;have:=jP hb2;have:=jP hb3;have:=jP hb4;have:=xQ hb5;omega)),hS.bel⟩)
 rw [hb5]
 refine jJ Tryz.f75 2 [2,11] [.bool (z==6),.bool (z==6)] ?_
 refine lK [(2,(vi 0)),(11,(.bool (z==6)))] [] ?_
 refine oC (z==6) (fun hb6=>?_) (fun hb6=>?_)
 ·
  rw [hb6]
  refine jJ Tryz.f75 1 [2] [vi 2] (aF (aP (aC ?_)))
  exact mR (v:=(vi 2)) (fun _ hS=>⟨congrArg (fun x=>Ending.returned (vi x)) (kd_6 (by have:=jP hb1;have:=jP hb2;have:=jP hb3;have:=jP hb4;have:=jP hb5;have:=xQ hb6;omega)),hS.bel⟩)
 rw [hb6]
 refine aG (aJ (aA (jJ Tryz.f75 1 [2] [vi (-1)] (aF ?_))))
 exact mR (v:=(vi (-1))) (fun _ hS=>⟨congrArg (fun x=>Ending.returned (vi x)) (kd_0 (by have:=jP hb1;have:=jP hb2;have:=jP hb3;have:=jP hb4;have:=jP hb5;have:=jP hb6;omega)),hS.bel⟩)
theorem dwhole_any (a:Option Addr) (c:Nat) (ts:List bW) (w0:World) (hf0:bM w0 a c ts):Calls Tryz.prog 52 #[.slice a ts.length c] w0 (jR (.bool (vG 1 ts)) w0):=by
 refine Calls.of_ok (n:=29) (F:=(fun w=>bM w a c ts∧True)) Tryz.func52 rfl rfl rfl (by simp) (hf0.pers0.and cO) ?_
 have hlen:ts.length≤1000000:=hf0.max
 have ho:mP ts:=hf0.oks
 refine jJ Tryz.f52 1 [0,2] [vF] (jJ Tryz.f52 1 [0,2,3] [vi 1] (aB (jJ Tryz.f52 3 [2,3,7,8,9] [.slice a ts.length c,vn ts.length,vi 0] (aI ?_))))
 refine oL (σ:=Nat × Int) (fun ⟨i,m⟩=>[(3,(vi m)),(7,(.slice a ts.length c)),(8,(vn ts.length)),(9,(vn i))]) (fun ⟨_,_⟩=>[]) (fun ⟨i,_⟩=>ts.length-i)
   (fun ⟨i,m⟩=>(i≤ts.length)∧(0≤m∧m≤1+(i:Int))∧(vG m (ts.drop i)=vG 1 ts)) (0,1) (⟨Nat.zero_le _,by decide,rfl⟩) [] ?_
 rintro ⟨i,m⟩ ⟨hi,hm,hr⟩
 change Ok Tryz.prog _ _ 29 [(3,(vi m)),(7,(.slice a ts.length c)),(8,(vn ts.length)),(9,(vn i))] _ [] (fun w=>bM w a c ts∧True)
 refine jJ Tryz.f52 1 [3,7,8,9,10] [.bool (decide (((i:Nat):Int)<((ts.length:Nat):Int)))] (aB ?_)
 refine oC (decide (((i:Nat):Int)<((ts.length:Nat):Int))) (fun hb1=>?_) (fun hb1=>?_)
 ·
  rw [hb1]
  have:=yT hb1
  refine aG (aA (aB (aI ?_)))
  refine sS Tryz.f52 4 [3,5,7,8,9] [] (fun ρ=>[.pointer (fK a (i*36)),.agg (bW.row (gT ts i)),pt (nb ρ 2),undef]) (fun ρ=>[(2,(nw ρ 2 (cL (iC 0 0 0 0 vz) 60))),(3,(bD 16 (nb ρ 2) (cL (bW.row (gT ts i)) 60)))]) (cX (qF (fun _ _ _ hG=>bM.idx (k:=.i64) Tryz.underlying24 Tryz.sizeOf60 hG.fn.1 rfl (show ((i:Nat):Int)=((i:Nat):Int) from rfl) (show i<ts.length from (by omega))))<|cX (qF (fun _ _ _ hG=>bM.ldA (i:=i) Tryz.isAgg60 Tryz.sizeOf60 hG.fn.1 (show i<ts.length from (by omega))))<|jE [[],[16]]) (fun ρ5=>?_)
  refine sS Tryz.f52 4 [3,6,7,8,9] [0] (fun _=>[pt (nb ρ5 2),vi (gT ts i).kd,vi (nO (gT ts i).kd),vi (nO (gT ts i).kd)]) (fun _=>[]) (cR [[],[0]]<|cC (fun _ w=>dkids_any (gT ts i).kd w)<|jE [[]]) (fun _=>?_)
  refine aB ?_
  rcases Bool.eq_false_or_eq_true (m==0) with hb2 | hb2
  ·
   refine sS Tryz.f52 6 [3,6,7,8,9,21] [] (fun _=>[vi m,vT,vT,undef,undef,vT]) (fun _=>[]) (cR [[]]<|cA (fun _=>vT) (fun _=>congrArg Value.bool hb2)<|jE [[],[],[],[]]) (fun _=>?_)
   refine oY ?_
   refine jJ Tryz.f52 1 [2,3,6,7,8,9] [vF] (aF (aC (aP (aC (aC (aP (aC ?_)))))))
   exact mR (v:=vF) (fun _ hS=>⟨jB (wh_stop (by omega) (Or.inl (xQ hb2)) hr).symm,hS.bel⟩)
  refine sS Tryz.f52 6 [3,6,7,8,9,21] [] (fun _=>let qa:Value:=.bool (decide ((nO (gT ts i).kd)<0));[vi m,vF,vF,vi (nO (gT ts i).kd),qa,qa]) (fun _=>[]) (cR [[]]<|cA (fun _=>vF) (fun _=>congrArg Value.bool hb2)<|jE [[],[],[],[]]) (fun _=>?_)
  refine oC (decide ((nO (gT ts i).kd)<0)) (fun hb3=>?_) (fun hb3=>?_)
  ·
   rw [hb3]
   refine jJ Tryz.f52 1 [2,3,6,7,8,9] [vF] (aF (aC (aP (aC (aC (aP (aC ?_)))))))
   exact mR (v:=vF) (fun _ hS=>⟨jB (wh_stop (by have:=yT hb3;omega) (Or.inr (yT hb3)) hr).symm,hS.bel⟩)
  rw [hb3]
  have:=yF hb3
  refine aG (aA ?_)
  refine rS Tryz.f52 5 [3,7,8,9] [] (fun _=>let qa:=vi (m+(nO (gT ts i).kd-1));[vi m,vi (nO (gT ts i).kd),vi (nO (gT ts i).kd-1),qa,qa]) (fun _=>[]) (cR [[],[]]<|jU (fun ρ=>((nO (gT ts i).kd)-1)) (fun _=>(nO (gT ts i).kd-1)) (fun _=>(gZ (by have:=zM (gT ts i).kd;omega)))<|jU (fun ρ=>(m+(nO (gT ts i).kd-1))) (fun _=>(m+(nO (gT ts i).kd-1))) (fun _=>(gZ (by have:=zM (gT ts i).kd;omega)))<|jE [[]]) (fun _=>?_)
  refine aJ (aA ?_)
  refine rS Tryz.f52 2 [3,7,8,9] [] (fun _=>[vn (i+1),vn (i+1)]) (fun _=>[]) (jW (fun ρ=>(((i:Nat):Int)+1)) (fun _=>(i+1)) (fun _=>(aW i 1 (by omega)))<|jE [[]]) (fun _=>?_)
  exact mN (i+1,m+(nO (gT ts i).kd-1)) (by show ts.length-(i+1)<ts.length-i;omega) (⟨(by omega),by have:=zM (gT ts i).kd;have:=jP hb2;omega,wh_next (by omega) (jP hb2) (yF hb3) hr⟩) []
 rw [hb1]
 refine bF (aN (aN (aT (aA (jJ Tryz.f52 3 [2] [vi m,.bool (m==0),.bool (m==0)] (aF ?_))))))
 exact mR (v:=(.bool (m==0))) (fun _ hS=>⟨jB ((beq_dec m).trans (wh_end (by have:=yF hb1;omega) hr)),hS.bel⟩)
theorem dfields_any (kd:Int) (m:Int) (nu:Nat) (h:Nat) (ka:Option Addr) (kc:Nat) (ks:List dO) (hh:h<M) (w0:World):Calls Tryz.prog 53 #[.agg (iC kd m ((nu:Nat):Int) h (.slice ka ks.length kc))] w0 (jR (.bool (fdN kd m nu h ks.length)) w0):=by
 refine Calls.of_ok (n:=70) (F:=(fun _=>True)) Tryz.func53 rfl rfl rfl (by simp) jT ?_
 refine sS Tryz.f53 2 [1,2] [] (fun ρ=>[pt (nb ρ 0),vF]) (fun ρ=>[(0,(nw ρ 0 (cL (iC kd m ((nu:Nat):Int) h (.slice ka ks.length kc)) 60)))]) (jE [[],[]]) (fun ρ1=>?_)
 refine aB ?_
 rcases Bool.eq_false_or_eq_true (kd != 2) with hb1 | hb1
 ·
  refine sS Tryz.f53 8 [1,2,10] [] (fun _=>[pt (nb ρ1 0),vi kd,vT,vT,jp (nb ρ1 0) 1,vi m,.bool (m != 0),.bool (m != 0)]) (fun _=>[]) (cR [[],[0]]<|cA (fun _=>vT) (fun _=>congrArg Value.bool hb1)<|jE [[],[],[0],[],[]]) (fun _=>?_)
  refine oC (m != 0) (fun hb2=>?_) (fun hb2=>?_)
  ·
   rw [hb2]
   refine jJ Tryz.f53 1 [1,2] [vF] (aF (aC ?_))
   exact mR (v:=vF) (fun _ hS=>⟨jB (qU (by have:=iK hb1;have:=iK hb2;unfold o7;omega)),hS.bel⟩)
  rw [hb2]
  refine aG (aA (aB ?_))
  rcases Bool.eq_false_or_eq_true (kd != 3) with hb3 | hb3
  ·
   rcases Bool.eq_false_or_eq_true (kd != 4) with hb4 | hb4
   ·
    refine sS Tryz.f53 13 [1,2,23] [] (fun _=>let qa:Value:=.bool (((nu:Nat):Int) != 0);[pt (nb ρ1 0),vi kd,vT,vT,pt (nb ρ1 0),vi kd,vT,vT,vT,jp (nb ρ1 0) 2,vu nu,qa,qa]) (fun _=>[]) (cR [[],[0]]<|cA (fun _=>vT) (fun _=>congrArg Value.bool hb3)<|cR [[],[],[0]]<|cA (fun _=>vT) (fun _=>congrArg Value.bool hb4)<|jE [[],[],[],[0],[],[]]) (fun _=>?_)
    refine oC (((nu:Nat):Int) != 0) (fun hb5=>?_) (fun hb5=>?_)
    ·
     rw [hb5]
     refine jJ Tryz.f53 1 [1,2] [vF] (aF (aC ?_))
     exact mR (v:=vF) (fun _ hS=>⟨jB (qU (by have:=iK hb1;have:=dD hb2;have:=iK hb3;have:=iK hb4;have:=iK hb5;unfold o7;omega)),hS.bel⟩)
    rw [hb5]
    refine aG (aA (aB ?_))
    rcases Bool.eq_false_or_eq_true (kd != 5) with hb6 | hb6
    ·
     refine sS Tryz.f53 9 [1,2,32] [] (fun _=>[pt (nb ρ1 0),vi kd,vT,vT,jp (nb ρ1 0) 3,.agg (hB h),.agg (hB 0),.bool (!decide (h=0)),.bool (!decide (h=0))]) (fun _=>[]) (cR [[],[0]]<|cA (fun _=>vT) (fun _=>congrArg Value.bool hb6)<|cR [[],[],[0],[]]<|cB (a:=fun ρ=>(.agg (hB h))) (b:=fun ρ=>(.agg (hB 0))) (v:=fun ρ=>(.bool (!decide (h=0)))) .neq 57 (fun _ _=>neqH h 0 hh (by decide +kernel) _)<|jE [[]]) (fun _=>?_)
     refine oC (!decide (h=0)) (fun hb7=>?_) (fun hb7=>?_)
     ·
      rw [hb7]
      refine jJ Tryz.f53 1 [1,2] [vF] (aF (aC ?_))
      exact mR (v:=vF) (fun _ hS=>⟨jB (qU (by have:=iK hb1;have:=dD hb2;have:=iK hb3;have:=iK hb4;have:=dD hb5;have:=iK hb6;have:=yF (dF hb7);unfold o7;omega)),hS.bel⟩)
     rw [hb7]
     refine aG (aA (aB (jM Tryz.f53 2 [1,2,34] [] [pt (nb ρ1 0),vi kd] [[],[0]] (aI (jJ Tryz.f53 2 [1,2,34,35] [.bool (kd==1),.bool (kd==1)] ?_)))))
     refine oC (kd==1) (fun hb8=>?_) (fun hb8=>?_)
     ·
      rw [hb8]
      refine jM Tryz.f53 5 [1,2] [] (let qa:Value:=.bool (((ks.length:Nat):Int)==1);[jp (nb ρ1 0) 35,.slice ka ks.length kc,vn ks.length,qa,qa]) [[],[0],[],[],[]] (aF (aP (aC ?_)))
      exact mR (v:=(.bool (((ks.length:Nat):Int)==1))) (fun _ hS=>⟨jB (fd_b (by have:=iK hb1;have:=dD hb2;have:=iK hb3;have:=iK hb4;have:=dD hb5;have:=iK hb6;have:=yT (aV hb7);have:=xQ hb8;unfold o7;omega)),hS.bel⟩)
     rw [hb8]
     refine sS Tryz.f53 2 [1,2,41] [] (fun _=>[vF,vF]) (fun _=>[]) (cA (fun _=>vF) (fun _=>congrArg Value.bool (beq_f (iK hb1)))<|jE [[]]) (fun _=>?_)
     refine lK [(1,(pt (nb ρ1 0))),(2,vF),(41,vF)] [(nb ρ1 0,(cL (iC kd m ((nu:Nat):Int) h (.slice ka ks.length kc)) 60))] ?_
     refine oN ?_
     refine aG (aJ (aA (jM Tryz.f53 5 [2] [0] (let qa:Value:=.bool (((ks.length:Nat):Int)==0);[jp (nb ρ1 0) 35,.slice ka ks.length kc,vn ks.length,qa,qa]) [[],[0],[],[],[]] (aF ?_))))
     exact mR (v:=(.bool (((ks.length:Nat):Int)==0))) (fun _ hS=>⟨jB (fd_b (by have:=iK hb1;have:=dD hb2;have:=iK hb3;have:=iK hb4;have:=dD hb5;have:=iK hb6;have:=yT (aV hb7);have:=jP hb8;unfold o7;omega)),hS.bel⟩)
    refine sS Tryz.f53 9 [1,2,32] [] (fun _=>[pt (nb ρ1 0),vi kd,vF,vF,undef,undef,undef,undef,vF]) (fun _=>[]) (cR [[],[0]]<|cA (fun _=>vF) (fun _=>congrArg Value.bool hb6)<|jE [[],[],[],[],[],[]]) (fun _=>?_)
    refine oN ?_
    refine aG (aA (aB (jM Tryz.f53 2 [1,2,34] [] [pt (nb ρ1 0),vi kd] [[],[0]] (aI ?_))))
    refine sS Tryz.f53 2 [1,2,34,35] [] (fun _=>[vF,vF]) (fun _=>[]) (jQ (fun ρ=>(kd==1)) false (fun _=>(show (kd==1)=false by rw [dD hb6];rfl))<|jE [[]]) (fun _=>?_)
    refine oN ?_
    refine sS Tryz.f53 2 [1,2,41] [] (fun _=>[vF,vF]) (fun _=>[]) (jQ (fun ρ=>(kd==2)) false (fun _=>(show (kd==2)=false by rw [dD hb6];rfl))<|jE [[]]) (fun _=>?_)
    refine lK [(1,(pt (nb ρ1 0))),(2,vF),(41,vF)] [(nb ρ1 0,(cL (iC kd m ((nu:Nat):Int) h (.slice ka ks.length kc)) 60))] ?_
    refine oN ?_
    refine aG (aJ (aA (jM Tryz.f53 5 [2] [0] (let qa:Value:=.bool (((ks.length:Nat):Int)==0);[jp (nb ρ1 0) 35,.slice ka ks.length kc,vn ks.length,qa,qa]) [[],[0],[],[],[]] (aF ?_))))
    exact mR (v:=(.bool (((ks.length:Nat):Int)==0))) (fun _ hS=>⟨jB (fd_b (by have:=iK hb1;have:=dD hb2;have:=iK hb3;have:=iK hb4;have:=dD hb5;have:=dD hb6;unfold o7;omega)),hS.bel⟩)
   refine sS Tryz.f53 13 [1,2,23] [] (fun _=>[pt (nb ρ1 0),vi kd,vT,vT,pt (nb ρ1 0),vi kd,vF,vF,vF,undef,undef,undef,vF]) (fun _=>[]) (cR [[],[0]]<|cA (fun _=>vT) (fun _=>congrArg Value.bool hb3)<|cR [[],[],[0]]<|cA (fun _=>vF) (fun _=>congrArg Value.bool hb4)<|jE [[],[],[],[],[],[]]) (fun _=>?_)
   refine oN ?_
   refine aG (aA (aB ?_))
   refine sS Tryz.f53 9 [1,2,32] [] (fun _=>[pt (nb ρ1 0),vi kd,vT,vT,jp (nb ρ1 0) 3,.agg (hB h),.agg (hB 0),.bool (!decide (h=0)),.bool (!decide (h=0))]) (fun _=>[]) (cR [[],[0]]<|jQ (fun ρ=>(kd != 5)) true (fun _=>(show (kd != 5)=true by rw [dD hb4];rfl))<|cR [[],[],[0],[]]<|cB (a:=fun ρ=>(.agg (hB h))) (b:=fun ρ=>(.agg (hB 0))) (v:=fun ρ=>(.bool (!decide (h=0)))) .neq 57 (fun _ _=>neqH h 0 hh (by decide +kernel) _)<|jE [[]]) (fun _=>?_)
   refine oC (!decide (h=0)) (fun hb9=>?_) (fun hb9=>?_)
   ·
    rw [hb9]
    refine jJ Tryz.f53 1 [1,2] [vF] (aF (aC ?_))
    exact mR (v:=vF) (fun _ hS=>⟨jB (qU (by have:=iK hb1;have:=dD hb2;have:=iK hb3;have:=dD hb4;have:=yF (dF hb9);unfold o7;omega)),hS.bel⟩)
   rw [hb9]
   refine aG (aA (aB (jM Tryz.f53 2 [1,2,34] [] [pt (nb ρ1 0),vi kd] [[],[0]] (aI ?_))))
   refine sS Tryz.f53 2 [1,2,34,35] [] (fun _=>[vF,vF]) (fun _=>[]) (jQ (fun ρ=>(kd==1)) false (fun _=>(show (kd==1)=false by rw [dD hb4];rfl))<|jE [[]]) (fun _=>?_)
   refine oN ?_
   refine sS Tryz.f53 2 [1,2,41] [] (fun _=>[vF,vF]) (fun _=>[]) (jQ (fun ρ=>(kd==2)) false (fun _=>(show (kd==2)=false by rw [dD hb4];rfl))<|jE [[]]) (fun _=>?_)
   refine lK [(1,(pt (nb ρ1 0))),(2,vF),(41,vF)] [(nb ρ1 0,(cL (iC kd m ((nu:Nat):Int) h (.slice ka ks.length kc)) 60))] ?_
   refine oN ?_
   refine aG (aJ (aA (jM Tryz.f53 5 [2] [0] (let qa:Value:=.bool (((ks.length:Nat):Int)==0);[jp (nb ρ1 0) 35,.slice ka ks.length kc,vn ks.length,qa,qa]) [[],[0],[],[],[]] (aF ?_))))
   exact mR (v:=(.bool (((ks.length:Nat):Int)==0))) (fun _ hS=>⟨jB (fd_b (by have:=iK hb1;have:=dD hb2;have:=iK hb3;have:=dD hb4;have:=yT (aV hb9);unfold o7;omega)),hS.bel⟩)
  refine sS Tryz.f53 13 [1,2,23] [] (fun _=>[pt (nb ρ1 0),vi kd,vF,vF,undef,undef,undef,vF,vF,undef,undef,undef,vF]) (fun _=>[]) (cR [[],[0]]<|cA (fun _=>vF) (fun _=>congrArg Value.bool hb3)<|jE [[],[],[],[],[],[],[],[],[],[]]) (fun _=>?_)
  refine oN ?_
  refine aG (aA (aB ?_))
  refine sS Tryz.f53 9 [1,2,32] [] (fun _=>[pt (nb ρ1 0),vi kd,vT,vT,jp (nb ρ1 0) 3,.agg (hB h),.agg (hB 0),.bool (!decide (h=0)),.bool (!decide (h=0))]) (fun _=>[]) (cR [[],[0]]<|jQ (fun ρ=>(kd != 5)) true (fun _=>(show (kd != 5)=true by rw [dD hb3];rfl))<|cR [[],[],[0],[]]<|cB (a:=fun ρ=>(.agg (hB h))) (b:=fun ρ=>(.agg (hB 0))) (v:=fun ρ=>(.bool (!decide (h=0)))) .neq 57 (fun _ _=>neqH h 0 hh (by decide +kernel) _)<|jE [[]]) (fun _=>?_)
  refine oC (!decide (h=0)) (fun hb10=>?_) (fun hb10=>?_)
  ·
   rw [hb10]
   refine jJ Tryz.f53 1 [1,2] [vF] (aF (aC ?_))
   exact mR (v:=vF) (fun _ hS=>⟨jB (qU (by have:=iK hb1;have:=dD hb2;have:=dD hb3;have:=yF (dF hb10);unfold o7;omega)),hS.bel⟩)
  rw [hb10]
  refine aG (aA (aB (jM Tryz.f53 2 [1,2,34] [] [pt (nb ρ1 0),vi kd] [[],[0]] (aI ?_))))
  refine sS Tryz.f53 2 [1,2,34,35] [] (fun _=>[vF,vF]) (fun _=>[]) (jQ (fun ρ=>(kd==1)) false (fun _=>(show (kd==1)=false by rw [dD hb3];rfl))<|jE [[]]) (fun _=>?_)
  refine oN ?_
  refine sS Tryz.f53 2 [1,2,41] [] (fun _=>[vF,vF]) (fun _=>[]) (jQ (fun ρ=>(kd==2)) false (fun _=>(show (kd==2)=false by rw [dD hb3];rfl))<|jE [[]]) (fun _=>?_)
  refine lK [(1,(pt (nb ρ1 0))),(2,vF),(41,vF)] [(nb ρ1 0,(cL (iC kd m ((nu:Nat):Int) h (.slice ka ks.length kc)) 60))] ?_
  refine oN ?_
  refine aG (aJ (aA (jM Tryz.f53 5 [2] [0] (let qa:Value:=.bool (((ks.length:Nat):Int)==0);[jp (nb ρ1 0) 35,.slice ka ks.length kc,vn ks.length,qa,qa]) [[],[0],[],[],[]] (aF ?_))))
  exact mR (v:=(.bool (((ks.length:Nat):Int)==0))) (fun _ hS=>⟨jB (fd_b (by have:=iK hb1;have:=dD hb2;have:=dD hb3;have:=yT (aV hb10);unfold o7;omega)),hS.bel⟩)
 refine sS Tryz.f53 8 [1,2,10] [] (fun _=>[pt (nb ρ1 0),vi kd,vF,vF,undef,undef,undef,vF]) (fun _=>[]) (cR [[],[0]]<|cA (fun _=>vF) (fun _=>congrArg Value.bool hb1)<|jE [[],[],[],[],[]]) (fun _=>?_)
 refine oN ?_
 refine aG (aA (aB ?_))
 refine sS Tryz.f53 13 [1,2,23] [] (fun _=>let qa:Value:=.bool (((nu:Nat):Int) != 0);[pt (nb ρ1 0),vi kd,vT,vT,pt (nb ρ1 0),vi kd,vT,vT,vT,jp (nb ρ1 0) 2,vu nu,qa,qa]) (fun _=>[]) (cR [[],[0]]<|jQ (fun ρ=>(kd != 3)) true (fun _=>(show (kd != 3)=true by rw [dD hb1];rfl))<|cR [[],[],[0]]<|jQ (fun ρ=>(kd != 4)) true (fun _=>(show (kd != 4)=true by rw [dD hb1];rfl))<|jE [[],[],[],[0],[],[]]) (fun _=>?_)
 refine oC (((nu:Nat):Int) != 0) (fun hb11=>?_) (fun hb11=>?_)
 ·
  rw [hb11]
  refine jJ Tryz.f53 1 [1,2] [vF] (aF (aC ?_))
  exact mR (v:=vF) (fun _ hS=>⟨jB (qU (by have:=dD hb1;have:=iK hb11;unfold o7;omega)),hS.bel⟩)
 rw [hb11]
 refine aG (aA (aB ?_))
 refine sS Tryz.f53 9 [1,2,32] [] (fun _=>[pt (nb ρ1 0),vi kd,vT,vT,jp (nb ρ1 0) 3,.agg (hB h),.agg (hB 0),.bool (!decide (h=0)),.bool (!decide (h=0))]) (fun _=>[]) (cR [[],[0]]<|jQ (fun ρ=>(kd != 5)) true (fun _=>(show (kd != 5)=true by rw [dD hb1];rfl))<|cR [[],[],[0],[]]<|cB (a:=fun ρ=>(.agg (hB h))) (b:=fun ρ=>(.agg (hB 0))) (v:=fun ρ=>(.bool (!decide (h=0)))) .neq 57 (fun _ _=>neqH h 0 hh (by decide +kernel) _)<|jE [[]]) (fun _=>?_)
 refine oC (!decide (h=0)) (fun hb12=>?_) (fun hb12=>?_)
 ·
  rw [hb12]
  refine jJ Tryz.f53 1 [1,2] [vF] (aF (aC ?_))
  exact mR (v:=vF) (fun _ hS=>⟨jB (qU (by have:=dD hb1;have:=dD hb11;have:=yF (dF hb12);unfold o7;omega)),hS.bel⟩)
 rw [hb12]
 refine aG (aA (aB (jM Tryz.f53 2 [1,2,34] [] [pt (nb ρ1 0),vi kd] [[],[0]] (aI ?_))))
 refine sS Tryz.f53 2 [1,2,34,35] [] (fun _=>[vF,vF]) (fun _=>[]) (jQ (fun ρ=>(kd==1)) false (fun _=>(show (kd==1)=false by rw [dD hb1];rfl))<|jE [[]]) (fun _=>?_)
 refine oN ?_
 refine sS Tryz.f53 2 [1,2,41] [] (fun _=>[vT,vT]) (fun _=>[]) (jQ (fun ρ=>(kd==2)) true (fun _=>(show (kd==2)=true by rw [dD hb1];rfl))<|jE [[]]) (fun _=>?_)
 refine lK [(1,(pt (nb ρ1 0))),(2,vF),(41,vT)] [(nb ρ1 0,(cL (iC kd m ((nu:Nat):Int) h (.slice ka ks.length kc)) 60))] ?_
 refine oY ?_
 rcases Bool.eq_false_or_eq_true (decide (1≤((ks.length:Nat):Int))) with hb13 | hb13
 ·
  rcases Bool.eq_false_or_eq_true (decide (((ks.length:Nat):Int)≤15)) with hb14 | hb14
  ·
   rcases Bool.eq_false_or_eq_true (decide (1≤m)) with hb15 | hb15
   ·
    refine sS Tryz.f53 24 [1,2] [] (fun _=>let qa:Value:=.bool (decide (m≤((ks.length:Nat):Int)));let qb:Value:=.slice ka ks.length kc;[jp (nb ρ1 0) 35,qb,vn ks.length,vT,vT,jp (nb ρ1 0) 35,qb,vn ks.length,vT,vT,vT,jp (nb ρ1 0) 1,vi m,vT,vT,vT,jp (nb ρ1 0) 1,vi m,jp (nb ρ1 0) 35,qb,vn ks.length,qa,qa,qa]) (fun _=>[]) (cR [[],[0],[]]<|cA (fun _=>vT) (fun _=>congrArg Value.bool hb13)<|cR [[],[],[0],[]]<|cA (fun _=>vT) (fun _=>congrArg Value.bool hb14)<|cR [[],[],[],[0]]<|cA (fun _=>vT) (fun _=>congrArg Value.bool hb15)<|jE [[],[],[],[0],[],[0],[],[],[],[]]) (fun _=>?_)
    refine aF (aP (aC ?_))
    exact mR (v:=(.bool (decide (m≤((ks.length:Nat):Int))))) (fun _ hS=>⟨jB (fd_d (by have:=dD hb1;have:=dD hb11;have:=yT (aV hb12);have:=yT hb13;have:=yT hb14;have:=yT hb15;unfold o7;omega)),hS.bel⟩)
   refine sS Tryz.f53 24 [1,2] [] (fun _=>[jp (nb ρ1 0) 35,.slice ka ks.length kc,vn ks.length,vT,vT,jp (nb ρ1 0) 35,.slice ka ks.length kc,vn ks.length,vT,vT,vT,jp (nb ρ1 0) 1,vi m,vF,vF,vF,undef,undef,undef,undef,undef,undef,vF,vF]) (fun _=>[]) (cR [[],[0],[]]<|cA (fun _=>vT) (fun _=>congrArg Value.bool hb13)<|cR [[],[],[0],[]]<|cA (fun _=>vT) (fun _=>congrArg Value.bool hb14)<|cR [[],[],[],[0]]<|cA (fun _=>vF) (fun _=>congrArg Value.bool hb15)<|jE [[],[],[],[],[],[],[],[],[],[]]) (fun _=>?_)
   refine aF (aP (aC ?_))
   exact mR (v:=vF) (fun _ hS=>⟨jB (qU (by have:=dD hb1;have:=dD hb11;have:=yT (aV hb12);have:=yT hb13;have:=yT hb14;have:=yF hb15;unfold o7;omega)),hS.bel⟩)
  refine sS Tryz.f53 24 [1,2] [] (fun _=>[jp (nb ρ1 0) 35,.slice ka ks.length kc,vn ks.length,vT,vT,jp (nb ρ1 0) 35,.slice ka ks.length kc,vn ks.length,vF,vF,vF,undef,undef,undef,vF,vF,undef,undef,undef,undef,undef,undef,vF,vF]) (fun _=>[]) (cR [[],[0],[]]<|cA (fun _=>vT) (fun _=>congrArg Value.bool hb13)<|cR [[],[],[0],[]]<|cA (fun _=>vF) (fun _=>congrArg Value.bool hb14)<|jE [[],[],[],[],[],[],[],[],[],[],[],[],[],[],[]]) (fun _=>?_)
  refine aF (aP (aC ?_))
  exact mR (v:=vF) (fun _ hS=>⟨jB (qU (by have:=dD hb1;have:=dD hb11;have:=yT (aV hb12);have:=yT hb13;have:=yF hb14;unfold o7;omega)),hS.bel⟩)
 refine sS Tryz.f53 24 [1,2] [] (fun _=>[jp (nb ρ1 0) 35,.slice ka ks.length kc,vn ks.length,vF,vF,undef,undef,undef,undef,vF,vF,undef,undef,undef,vF,vF,undef,undef,undef,undef,undef,undef,vF,vF]) (fun _=>[]) (cR [[],[0],[]]<|cA (fun _=>vF) (fun _=>congrArg Value.bool hb13)<|jE [[],[],[],[],[],[],[],[],[],[],[],[],[],[],[],[],[],[],[],[]]) (fun _=>?_)
 refine aF (aP (aC ?_))
 exact mR (v:=vF) (fun _ hS=>⟨jB (qU (by have:=dD hb1;have:=dD hb11;have:=yT (aV hb12);have:=yF hb13;unfold o7;omega)),hS.bel⟩)
theorem dhard_any (x:Nat) (w0:World):Calls Tryz.prog 78 #[vu x] w0 (jR (.bool (hdB x)) w0):=by
 refine Calls.of_ok (n:=5) (F:=(fun _=>True)) Tryz.func78 rfl rfl rfl (by simp) jT ?_
 refine jJ Tryz.f78 1 [0,2] [vF] (jJ Tryz.f78 3 [2] (let qa:Value:=.bool (decide (2147483648≤((x:Nat):Int)));[vu x,qa,qa]) (aF ?_))
 exact mR (v:=(.bool (decide (2147483648≤((x:Nat):Int))))) (fun _ hS=>⟨jB (hd_dec x),hS.bel⟩)
theorem ixfunc_any (a:Option Addr) (c:Nat) (ps:List Nat) (w0:World) (hf0:Is w0 .u32 a c (nI ps)):Calls Tryz.prog 104 #[.slice a (nI ps).length c,.func (.func 78) #[] #[]] w0 (jR (vi (ixA ps 0)) w0):=by
 refine Calls.of_ok (n:=19) (F:=(fun w=>Is w .u32 a c (nI ps)∧True)) Tryz.func104 rfl rfl rfl (by simp) (hf0.pers0.and cO) ?_
 have hlen:(nI ps).length≤140737488351232:=hf0.max
 refine jJ Tryz.f104 1 [0,1,4] [vi 0] (aB (jJ Tryz.f104 3 [0,1,4,7,8] [.slice a (nI ps).length c,vn (nI ps).length,vi 0] (aI ?_)))
 refine oL (σ:=Nat) (fun i=>[(0,(.slice a (nI ps).length c)),(1,(.func (.func 78) #[] #[])),(7,(vn (nI ps).length)),(8,(vn i))]) (fun _=>[]) (fun i=>(nI ps).length-i)
   (fun i=>(i≤(nI ps).length)∧(ixA (ps.drop i) i=ixA ps 0)) 0 (⟨Nat.zero_le _,rfl⟩) [] ?_
 rintro i ⟨hi,hr⟩
 change Ok Tryz.prog _ _ 19 [(0,(.slice a (nI ps).length c)),(1,(.func (.func 78) #[] #[])),(7,(vn (nI ps).length)),(8,(vn i))] _ [] (fun w=>Is w .u32 a c (nI ps)∧True)
 refine jJ Tryz.f104 1 [0,1,7,8,9] [.bool (decide (((i:Nat):Int)<(((nI ps).length:Nat):Int)))] (aB ?_)
 refine oC (decide (((i:Nat):Int)<(((nI ps).length:Nat):Int))) (fun hb1=>?_) (fun hb1=>?_)
 ·
  rw [hb1]
  have:=yT hb1
  refine aG (aA (aB (aI (jJ Tryz.f104 2 [0,1,5,7,8] [vn i,vn i] ?_))))
  refine sS Tryz.f104 6 [0,1,5,7,8,16] [] (fun _=>[.func (.func 78) #[] #[],.slice a (nI ps).length c,vn i,.pointer (fK a i),vu (ps.getD i 0),.bool (hdB (ps.getD i 0))]) (fun _=>[]) (cR [[],[],[]]<|cX (qF (fun _ _ _ hG=>o6 (k:=.i64) Tryz.underlying67 Tryz.sizeOf55 hG.fn.1 rfl (show ((i:Nat):Int)=((i:Nat):Int) from rfl) (show i<(nI ps).length from (by omega))))<|cX (qF (v:=fun ρ=>(vu (ps.getD i 0))) (fun _ _ _ hG=>(rG Tryz.isAgg55 hG.fn.1 (show i<(nI ps).length from (by omega))).trans (by rw [yQ])))<|cC (fun _ w=>dhard_any (ps.getD i 0) w)<|cN) (fun _=>?_)
  refine oC (hdB (ps.getD i 0)) (fun hb2=>?_) (fun hb2=>?_)
  ·
   rw [hb2]
   refine jJ Tryz.f104 2 [0,1,4,7,8] [vn i,vn i] (aF (aP (aC (aC (aP (aC ?_))))))
   exact mR (v:=(vn i)) (fun _ hS=>⟨congrArg (fun x=>Ending.returned (vi x)) (ix_stop (by have:=fZ ps;omega) hb2 hr),hS.bel⟩)
  rw [hb2]
  refine aG (aJ (aA ?_))
  refine rS Tryz.f104 2 [0,1,7,8] [] (fun _=>[vn (i+1),vn (i+1)]) (fun _=>[]) (jW (fun ρ=>(((i:Nat):Int)+1)) (fun _=>(i+1)) (fun _=>(aW i 1 (by omega)))<|jE [[]]) (fun _=>?_)
  exact mN (i+1) (by show (nI ps).length-(i+1)<(nI ps).length-i;omega) (⟨(by omega),ix_next (by have:=fZ ps;omega) hb2 hr⟩) []
 rw [hb1]
 refine bF (aN (aN (aT (aA (jJ Tryz.f104 1 [4] [vi (-1)] (aF ?_))))))
 exact mR (v:=(vi (-1))) (fun _ hS=>⟨congrArg (fun x=>Ending.returned (vi x)) (ix_end (by have:=fZ ps;have:=yF hb1;omega) hr),hS.bel⟩)
theorem cofunc_any (a:Option Addr) (c:Nat) (ps:List Nat) (w0:World) (hf0:Is w0 .u32 a c (nI ps)):Calls Tryz.prog 77 #[.slice a (nI ps).length c,.func (.func 78) #[] #[]] w0 (jR (.bool (ps.any hdB)) w0):=by
 refine Calls.of_ok (n:=9) (F:=(fun w=>Is w .u32 a c (nI ps)∧True)) Tryz.func77 rfl rfl rfl (by simp) (hf0.pers0.and cO) ?_
 refine jJ Tryz.f77 1 [0,1,4] [vF] ?_
 refine sS Tryz.f77 5 [4] [] (fun _=>let qa:Value:=.bool (decide (0≤(ixA ps 0)));[.slice a (nI ps).length c,.func (.func 78) #[] #[],vi (ixA ps 0),qa,qa]) (fun _=>[]) (cR [[],[]]<|cX (qC (fun _ _ w hG=>ixfunc_any a c ps w hG.fn.1))<|jE [[],[]]) (fun _=>?_)
 refine aF ?_
 exact mR (v:=(.bool (decide (0≤(ixA ps 0))))) (fun _ hS=>⟨jB (ixA_any ps 0),hS.bel⟩)
theorem dvpath_any (p:dO) (hp:p.Ok) (w0:World) (hf0:Is w0 .u32 p.pa p.pc (nI p.ps)):Calls Tryz.prog 54 #[.agg (dO.row p)] w0 (jR (.bool (dO.vp p)) w0):=by
 refine Calls.of_ok (n:=40) (F:=(fun w=>Is w .u32 p.pa p.pc (nI p.ps)∧True)) Tryz.func54 rfl rfl rfl (by simp) (hf0.pers0.and cO) ?_
 have hlen:(nI p.ps).length≤140737488351232:=hf0.max
 have hnl:(nI p.ps).length=p.ps.length:=fZ p.ps
 refine sS Tryz.f54 2 [1,2] [] (fun ρ=>[pt (nb ρ 0),vF]) (fun ρ=>[(0,(nw ρ 0 (cL (dO.row p) 69)))]) (jE [[],[]]) (fun ρ1=>?_)
 refine aB ?_
 rcases Bool.eq_false_or_eq_true (decide (8<(((nI p.ps).length:Nat):Int))) with hb1 | hb1
 ·
  refine sS Tryz.f54 10 [1,2,14] [] (fun _=>[jp (nb ρ1 0) 43,.slice p.pa (nI p.ps).length p.pc,vn (nI p.ps).length,vT,vT,undef,undef,undef,undef,vT]) (fun _=>[]) (cR [[],[0],[]]<|cA (fun _=>vT) (fun _=>congrArg Value.bool hb1)<|jE [[],[],[],[],[],[]]) (fun _=>?_)
  refine oY ?_
  refine jJ Tryz.f54 1 [1,2] [vF] (aF (aC ?_))
  exact mR (v:=vF) (fun _ hS=>⟨jB (vp_1 (by have:=yT hb1;omega)),hS.bel⟩)
 refine sS Tryz.f54 10 [1,2,14] [] (fun _=>[jp (nb ρ1 0) 43,.slice p.pa (nI p.ps).length p.pc,vn (nI p.ps).length,vF,vF,pt (nb ρ1 0),.agg (kY p.k),.bool (fC p.k),.bool (!(fC p.k)),.bool (!(fC p.k))]) (fun _=>[]) (cR [[],[0],[]]<|cA (fun _=>vF) (fun _=>congrArg Value.bool hb1)<|cR [[],[],[0]]<|cC (fun _ w=>yN p.k hp.k w)<|jE [[],[]]) (fun _=>?_)
 refine oC (!(fC p.k)) (fun hb2=>?_) (fun hb2=>?_)
 ·
  rw [hb2]
  refine jJ Tryz.f54 1 [1,2] [vF] (aF (aC ?_))
  exact mR (v:=vF) (fun _ hS=>⟨jB (vp_2 (dF hb2)),hS.bel⟩)
 rw [hb2]
 refine aG (aA ?_)
 refine sS Tryz.f54 8 [1,2,3] [] (fun _=>let qa:=vi (p.k.d+(((nI p.ps).length:Nat):Int));[pt (nb ρ1 0),jp (nb ρ1 0) 40,vi p.k.d,jp (nb ρ1 0) 43,.slice p.pa (nI p.ps).length p.pc,vn (nI p.ps).length,qa,qa]) (fun _=>[]) (cR [[],[],[0],[],[0],[]]<|jU (fun ρ=>(p.k.d+(((nI p.ps).length:Nat):Int))) (fun _=>(p.k.d+(((nI p.ps).length:Nat):Int))) (fun _=>(gZ (by have:=oI (aV hb2);have:=yF hb1;omega)))<|jE [[]]) (fun _=>?_)
 refine aB (jM Tryz.f54 2 [1,2,3,23] [] [jp (nb ρ1 0) 44,.bool p.wd] [[],[0]] ?_)
 refine oC p.wd (fun hb3=>?_) (fun hb3=>?_)
 ·
  rw [hb3]
  refine rS Tryz.f54 3 [1,2,3] [] (fun _=>let qa:=vi (p.k.d+(((nI p.ps).length:Nat):Int)+1);[vi (p.k.d+(((nI p.ps).length:Nat):Int)),qa,qa]) (fun _=>[]) (cR [[]]<|jU (fun ρ=>((p.k.d+(((nI p.ps).length:Nat):Int))+1)) (fun _=>(p.k.d+(((nI p.ps).length:Nat):Int)+1)) (fun _=>(gZ (by have:=oI (aV hb2);have:=yF hb1;omega)))<|jE [[]]) (fun _=>?_)
  refine aA (aB (jJ Tryz.f54 2 [1,2,27] [vi (p.k.d+(((nI p.ps).length:Nat):Int)+1),.bool (decide (8<(p.k.d+(((nI p.ps).length:Nat):Int)+1)))] ?_))
  refine oC (decide (8<(p.k.d+(((nI p.ps).length:Nat):Int)+1))) (fun hb4=>?_) (fun hb4=>?_)
  ·
   rw [hb4]
   refine jJ Tryz.f54 1 [1,2] [vF] (aF (aC ?_))
   exact mR (v:=vF) (fun _ hS=>⟨jB (vp_3 (by have:=w1_t hb3;have:=yF hb1;have:=yT hb4;omega)),hS.bel⟩)
  rw [hb4]
  have:=yF hb4
  refine aG (aA ?_)
  refine sS Tryz.f54 4 [1,2,4] [] (fun _=>[jp (nb ρ1 0) 43,.slice p.pa (nI p.ps).length p.pc,.bool (p.ps.any hdB),.bool (p.ps.any hdB)]) (fun _=>[]) (cR [[],[0]]<|cX (qC (fun _ _ w hG=>cofunc_any p.pa p.pc p.ps w hG.fn.1))<|jE [[]]) (fun _=>?_)
  refine lK [(1,(pt (nb ρ1 0))),(2,vF),(4,(.bool (p.ps.any hdB)))] [(nb ρ1 0,(cL (dO.row p) 69))] ?_
  rcases Bool.eq_false_or_eq_true (p.ps.any hdB) with hb5 | hb5
  ·
   rw [hb5]
   refine sS Tryz.f54 10 [2] [0] (fun _=>let qa:Value:=.bool (!decide (p.k.s=0));[vT,vF,vF,pt (nb ρ1 0),pt (nb ρ1 0),U p.k.s,U 0,qa,qa,qa]) (fun _=>[]) (cR [[],[],[],[],[],[0],[]]<|cB (a:=fun ρ=>(U p.k.s)) (b:=fun ρ=>(U 0)) (v:=fun ρ=>(.bool (!decide (p.k.s=0)))) .neq 64 (fun _ _=>neqU p.k.s 0 hp.k.s (by decide +kernel) _)<|jE [[],[]]) (fun _=>?_)
   refine aF ?_
   exact mR (v:=(.bool (!decide (p.k.s=0)))) (fun _ hS=>⟨jB (show (!decide (p.k.s=0))=dO.vp p from (Decidable.em (p.k.s=0)).elim (fun h0=>by rw [decide_eq_true h0];exact vp_4 hb5 h0) (fun h0=>by rw [decide_eq_false h0];exact vp_5 (by have:=yF hb1;omega) (aV hb2) (by have:=w1_t hb3;have:=yF hb1;omega) (Or.inr h0))),hS.bel⟩)
  rw [hb5]
  refine jM Tryz.f54 10 [2] [0] [vF,vT,vT,undef,undef,undef,undef,undef,vT,vT] [[],[],[],[],[],[],[],[],[],[]] (aF ?_)
  exact mR (v:=vT) (fun _ hS=>⟨jB (vp_5 (by have:=yF hb1;omega) (aV hb2) (by have:=w1_t hb3;have:=yF hb1;omega) (Or.inl hb5)),hS.bel⟩)
 rw [hb3]
 refine aG (aA (aB (jJ Tryz.f54 2 [1,2,27] [vi (p.k.d+(((nI p.ps).length:Nat):Int)),.bool (decide (8<(p.k.d+(((nI p.ps).length:Nat):Int))))] ?_)))
 refine oC (decide (8<(p.k.d+(((nI p.ps).length:Nat):Int)))) (fun hb6=>?_) (fun hb6=>?_)
 ·
  rw [hb6]
  refine jJ Tryz.f54 1 [1,2] [vF] (aF (aC ?_))
  exact mR (v:=vF) (fun _ hS=>⟨jB (vp_3 (by have:=w1_f hb3;have:=yF hb1;have:=yT hb6;omega)),hS.bel⟩)
 rw [hb6]
 have:=yF hb6
 refine aG (aA ?_)
 refine sS Tryz.f54 4 [1,2,4] [] (fun _=>[jp (nb ρ1 0) 43,.slice p.pa (nI p.ps).length p.pc,.bool (p.ps.any hdB),.bool (p.ps.any hdB)]) (fun _=>[]) (cR [[],[0]]<|cX (qC (fun _ _ w hG=>cofunc_any p.pa p.pc p.ps w hG.fn.1))<|jE [[]]) (fun _=>?_)
 rcases Bool.eq_false_or_eq_true (p.ps.any hdB) with hb7 | hb7
 ·
  rw [hb7]
  refine sS Tryz.f54 10 [2] [0] (fun _=>let qa:Value:=.bool (!decide (p.k.s=0));[vT,vF,vF,pt (nb ρ1 0),pt (nb ρ1 0),U p.k.s,U 0,qa,qa,qa]) (fun _=>[]) (cR [[],[],[],[],[],[0],[]]<|cB (a:=fun ρ=>(U p.k.s)) (b:=fun ρ=>(U 0)) (v:=fun ρ=>(.bool (!decide (p.k.s=0)))) .neq 64 (fun _ _=>neqU p.k.s 0 hp.k.s (by decide +kernel) _)<|jE [[],[]]) (fun _=>?_)
  refine aF ?_
  exact mR (v:=(.bool (!decide (p.k.s=0)))) (fun _ hS=>⟨jB (show (!decide (p.k.s=0))=dO.vp p from (Decidable.em (p.k.s=0)).elim (fun h0=>by rw [decide_eq_true h0];exact vp_4 hb7 h0) (fun h0=>by rw [decide_eq_false h0];exact vp_5 (by have:=yF hb1;omega) (aV hb2) (by have:=w1_f hb3;have:=yF hb1;omega) (Or.inr h0))),hS.bel⟩)
 rw [hb7]
 refine jM Tryz.f54 10 [2] [0] [vF,vT,vT,undef,undef,undef,undef,undef,vT,vT] [[],[],[],[],[],[],[],[],[],[]] (aF ?_)
 exact mR (v:=vT) (fun _ hS=>⟨jB (vp_5 (by have:=yF hb1;omega) (aV hb2) (by have:=w1_f hb3;have:=yF hb1;omega) (Or.inl hb7)),hS.bel⟩)
theorem dvalid_any (a:Option Addr) (c:Nat) (ts:List bW) (w0:World) (hf0:bM w0 a c ts):Calls Tryz.prog 31 #[.slice a ts.length c] w0 (jR (.bool (xW ts)) w0):=by
 refine Calls.of_ok (n:=50) (F:=(fun w=>bM w a c ts∧True)) Tryz.func31 rfl rfl rfl (by simp) (hf0.pers0.and cO) ?_
 have hlen:ts.length≤1000000:=hf0.max
 have ho:mP ts:=hf0.oks
 refine jJ Tryz.f31 1 [0,2] [vF] (aB ?_)
 rcases Bool.eq_false_or_eq_true (decide (((ts.length:Nat):Int)<1)) with hb1 | hb1
 ·
  refine sS Tryz.f31 13 [0,2,21] [] (fun _=>[.slice a ts.length c,vn ts.length,vT,vT,undef,undef,undef,vT,vT,undef,undef,undef,vT]) (fun _=>[]) (cR [[],[]]<|cA (fun _=>vT) (fun _=>congrArg Value.bool hb1)<|jE [[],[],[],[],[],[],[],[],[],[]]) (fun _=>?_)
  refine oY ?_
  refine jJ Tryz.f31 1 [0,2] [vF] (aF (aC ?_))
  exact mR (v:=vF) (fun _ hS=>⟨jB (vl_a (by have:=yT hb1;omega)),hS.bel⟩)
 rcases Bool.eq_false_or_eq_true (decide (8<((ts.length:Nat):Int))) with hb2 | hb2
 ·
  refine sS Tryz.f31 13 [0,2,21] [] (fun _=>[.slice a ts.length c,vn ts.length,vF,vF,.slice a ts.length c,vn ts.length,vT,vT,vT,undef,undef,undef,vT]) (fun _=>[]) (cR [[],[]]<|cA (fun _=>vF) (fun _=>congrArg Value.bool hb1)<|cR [[],[],[]]<|cA (fun _=>vT) (fun _=>congrArg Value.bool hb2)<|jE [[],[],[],[],[],[]]) (fun _=>?_)
  refine oY ?_
  refine jJ Tryz.f31 1 [0,2] [vF] (aF (aC ?_))
  exact mR (v:=vF) (fun _ hS=>⟨jB (vl_a (by have:=yF hb1;have:=yT hb2;omega)),hS.bel⟩)
 refine sS Tryz.f31 13 [0,2,21] [] (fun _=>[.slice a ts.length c,vn ts.length,vF,vF,.slice a ts.length c,vn ts.length,vF,vF,vF,.slice a ts.length c,.bool (vG 1 ts),.bool (!(vG 1 ts)),.bool (!(vG 1 ts))]) (fun _=>[]) (cR [[],[]]<|cA (fun _=>vF) (fun _=>congrArg Value.bool hb1)<|cR [[],[],[]]<|cA (fun _=>vF) (fun _=>congrArg Value.bool hb2)<|cR [[],[],[]]<|cX (qC (fun _ _ w hG=>dwhole_any a c ts w hG.fn.1))<|jE [[],[]]) (fun _=>?_)
 refine oC (!(vG 1 ts)) (fun hb3=>?_) (fun hb3=>?_)
 ·
  rw [hb3]
  refine jJ Tryz.f31 1 [0,2] [vF] (aF (aC ?_))
  exact mR (v:=vF) (fun _ hS=>⟨jB (vl_b (dF hb3)),hS.bel⟩)
 rw [hb3]
 refine aG (aA (aB (jJ Tryz.f31 3 [0,2,22,23,24] [.slice a ts.length c,vn ts.length,vi 0] (aI ?_))))
 refine oL (σ:=Nat) (fun i=>[(0,(.slice a ts.length c)),(22,(.slice a ts.length c)),(23,(vn ts.length)),(24,(vn i))]) (fun _=>[]) (fun i=>ts.length-i)
   (fun i=>(i≤ts.length)∧((ts.drop i).all bW.fd=ts.all bW.fd)) 0 (⟨Nat.zero_le _,rfl⟩) [] ?_
 rintro i ⟨hi,hA⟩
 change Ok Tryz.prog _ _ 50 [(0,(.slice a ts.length c)),(22,(.slice a ts.length c)),(23,(vn ts.length)),(24,(vn i))] _ [] (fun w=>bM w a c ts∧True)
 refine jJ Tryz.f31 1 [0,22,23,24,25] [.bool (decide (((i:Nat):Int)<((ts.length:Nat):Int)))] (aB ?_)
 refine oC (decide (((i:Nat):Int)<((ts.length:Nat):Int))) (fun hb4=>?_) (fun hb4=>?_)
 ·
  rw [hb4]
  have:=yT hb4
  refine aG (aA (aB (aI ?_)))
  refine sS Tryz.f31 4 [0,4,22,23,24] [] (fun ρ=>[.pointer (fK a (i*36)),.agg (bW.row (gT ts i)),pt (nb ρ 2),undef]) (fun ρ=>[(2,(nw ρ 2 (cL (iC 0 0 0 0 vz) 60))),(3,(bD 16 (nb ρ 2) (cL (bW.row (gT ts i)) 60)))]) (cX (qF (fun _ _ _ hG=>bM.idx (k:=.i64) Tryz.underlying24 Tryz.sizeOf60 hG.fn.1 rfl (show ((i:Nat):Int)=((i:Nat):Int) from rfl) (show i<ts.length from (by have:=yF hb1;have:=yF hb2;omega))))<|cX (qF (fun _ _ _ hG=>bM.ldA (i:=i) Tryz.isAgg60 Tryz.sizeOf60 hG.fn.1 (show i<ts.length from (by have:=yF hb1;have:=yF hb2;omega))))<|jE [[],[16]]) (fun _=>?_)
  refine sS Tryz.f31 3 [0,22,23,24,30] [0] (fun _=>[.agg (bW.row (gT ts i)),.bool (fdN (gT ts i).kd (gT ts i).m (gT ts i).nu (gT ts i).h (gT ts i).ks.length),.bool (!(fdN (gT ts i).kd (gT ts i).m (gT ts i).nu (gT ts i).h (gT ts i).ks.length))]) (fun _=>[]) (cR [[0]]<|cC (fun _ w=>dfields_any (gT ts i).kd (gT ts i).m (gT ts i).nu (gT ts i).h (gT ts i).ka (gT ts i).kc (gT ts i).ks (ho.gT i).h w)<|jE [[]]) (fun _=>?_)
  refine oC (!(fdN (gT ts i).kd (gT ts i).m (gT ts i).nu (gT ts i).h (gT ts i).ks.length)) (fun hb5=>?_) (fun hb5=>?_)
  ·
   rw [hb5]
   refine jJ Tryz.f31 1 [0,2,22,23,24] [vF] (aF (aP (aC (aC (aP (aC ?_))))))
   exact mR (v:=vF) (fun _ hS=>⟨jB (vl_c (sZ (f:=bW.fd) (l:=ts) (by have:=yF hb1;have:=yF hb2;omega) (dF hb5) hA)),hS.bel⟩)
  rw [hb5]
  refine aG (aJ (aA ?_))
  refine rS Tryz.f31 2 [0,22,23,24] [] (fun _=>[vn (i+1),vn (i+1)]) (fun _=>[]) (jW (fun ρ=>(((i:Nat):Int)+1)) (fun _=>(i+1)) (fun _=>(aW i 1 (by have:=yF hb1;have:=yF hb2;omega)))<|jE [[]]) (fun _=>?_)
  exact mN (i+1) (by show ts.length-(i+1)<ts.length-i;have:=yF hb1;have:=yF hb2;omega) (⟨(by have:=yF hb1;have:=yF hb2;omega),sF (f:=bW.fd) (l:=ts) (by have:=yF hb1;have:=yF hb2;omega) (aV hb5) hA⟩) []
 rw [hb4]
 have:=yF hb4
 refine bF (aN (aN (aT (aA (aB (jJ Tryz.f31 3 [32,33,34] [.slice a ts.length c,vn ts.length,vi 0] (aI ?_)))))))
 refine oL (σ:=Nat) (fun i2=>[(32,(.slice a ts.length c)),(33,(vn ts.length)),(34,(vn i2))]) (fun _=>[]) (fun i2=>ts.length-i2)
   (fun i2=>(i2≤ts.length)∧((ts.drop i2).all bW.vk=ts.all bW.vk)) 0 (⟨Nat.zero_le _,rfl⟩) [] ?_
 rintro i2 ⟨hi2,hB⟩
 change Ok Tryz.prog _ _ 50 [(32,(.slice a ts.length c)),(33,(vn ts.length)),(34,(vn i2))] _ [] (fun w=>bM w a c ts∧True)
 refine jJ Tryz.f31 1 [32,33,34,35] [.bool (decide (((i2:Nat):Int)<((ts.length:Nat):Int)))] (aB ?_)
 refine oC (decide (((i2:Nat):Int)<((ts.length:Nat):Int))) (fun hb6=>?_) (fun hb6=>?_)
 ·
  rw [hb6]
  have:=yT hb6
  refine aG (aA (aB (aI ?_)))
  refine sS Tryz.f31 4 [6,32,33,34] [] (fun ρ=>[.pointer (fK a (i2*36)),.agg (bW.row (gT ts i2)),pt (nb ρ 2),undef]) (fun ρ=>[(2,(nw ρ 2 (cL (iC 0 0 0 0 vz) 60))),(3,(bD 16 (nb ρ 2) (cL (bW.row (gT ts i2)) 60)))]) (cX (qF (fun _ _ _ hG=>bM.idx (k:=.i64) Tryz.underlying24 Tryz.sizeOf60 hG.fn.1 rfl (show ((i2:Nat):Int)=((i2:Nat):Int) from rfl) (show i2<ts.length from (by have:=yF hb1;have:=yF hb2;omega))))<|cX (qF (fun _ _ _ hG=>bM.ldA (i:=i2) Tryz.isAgg60 Tryz.sizeOf60 hG.fn.1 (show i2<ts.length from (by have:=yF hb1;have:=yF hb2;omega))))<|jE [[],[16]]) (fun ρ16=>?_)
  refine jM Tryz.f31 4 [32,33,34,39,40,41] [0] [jp (nb ρ16 2) 35,.slice (gT ts i2).ka (gT ts i2).ks.length (gT ts i2).kc,vn (gT ts i2).ks.length,vi 0] [[],[0],[],[]] (aI ?_)
  refine oL (σ:=Nat) (fun k=>[(32,(.slice a ts.length c)),(33,(vn ts.length)),(34,(vn i2)),(39,(.slice (gT ts i2).ka (gT ts i2).ks.length (gT ts i2).kc)),(40,(vn (gT ts i2).ks.length)),(41,(vn k))]) (fun _=>[]) (fun k=>(gT ts i2).ks.length-k)
    (fun k=>(k≤(gT ts i2).ks.length)∧(((gT ts i2).ks.drop k).all dO.vp=(gT ts i2).ks.all dO.vp)) 0 (⟨Nat.zero_le _,rfl⟩) [] ?_
  rintro k ⟨hk,hC⟩
  change Ok Tryz.prog _ _ 50 [(32,(.slice a ts.length c)),(33,(vn ts.length)),(34,(vn i2)),(39,(.slice (gT ts i2).ka (gT ts i2).ks.length (gT ts i2).kc)),(40,(vn (gT ts i2).ks.length)),(41,(vn k))] _ [] (fun w=>bM w a c ts∧True)
  have hkl:(gT ts i2).ks.length≤1000000:=ho.klen hf0 i2
  refine jJ Tryz.f31 1 [32,33,34,39,40,41,42] [.bool (decide (((k:Nat):Int)<(((gT ts i2).ks.length:Nat):Int)))] (aB ?_)
  refine oC (decide (((k:Nat):Int)<(((gT ts i2).ks.length:Nat):Int))) (fun hb7=>?_) (fun hb7=>?_)
  ·
   rw [hb7]
   have:=yT hb7
   refine aG (aA (aB (aI ?_)))
   refine sS Tryz.f31 4 [8,32,33,34,39,40,41] [] (fun ρ=>[.pointer (fK (gT ts i2).ka (k*45)),.agg (dO.row (gK (gT ts i2).ks k)),pt (nb ρ 2),undef]) (fun ρ=>[(2,(nw ρ 2 (cL (kM 0 0 0 0 0 0 vz vF) 69))),(3,(bD 16 (nb ρ 2) (cL (dO.row (gK (gT ts i2).ks k)) 69)))]) (cX (qF (fun _ _ _ hG=>oG.idx (k:=.i64) Tryz.underlying58 Tryz.sizeOf69 (hG.fn.1.sub _ (fA (show i2<ts.length from (by have:=yF hb1;have:=yF hb2;omega)))) rfl (show ((k:Nat):Int)=((k:Nat):Int) from rfl) (show k<(gT ts i2).ks.length from (by have:=yF hb1;have:=yF hb2;omega))))<|cX (qF (fun _ _ _ hG=>oG.ldA (i:=k) Tryz.isAgg69 Tryz.sizeOf69 (hG.fn.1.sub _ (fA (show i2<ts.length from (by have:=yF hb1;have:=yF hb2;omega)))) (show k<(gT ts i2).ks.length from (by have:=yF hb1;have:=yF hb2;omega))))<|jE [[],[16]]) (fun _=>?_)
   refine sS Tryz.f31 3 [32,33,34,39,40,41,47] [0] (fun _=>[.agg (dO.row (gK (gT ts i2).ks k)),.bool (dO.vp (gK (gT ts i2).ks k)),.bool (!(dO.vp (gK (gT ts i2).ks k)))]) (fun _=>[]) (cR [[0]]<|cX (qC (fun _ _ w hG=>dvpath_any (gK (gT ts i2).ks k) (ho.gK i2 k) w ((hG.fn.1.sub _ (fA (show i2<ts.length from (by have:=yF hb1;have:=yF hb2;omega)))).sub _ (nU (show k<(gT ts i2).ks.length from (by have:=yF hb1;have:=yF hb2;omega))))))<|jE [[]]) (fun _=>?_)
   refine oC (!(dO.vp (gK (gT ts i2).ks k))) (fun hb8=>?_) (fun hb8=>?_)
   ·
    rw [hb8]
    refine jJ Tryz.f31 1 [2,32,33,34,39,40,41] [vF] (aF (aP (aC (aC (aP (aP (aC (aC (aP (aC ?_))))))))))
    exact mR (v:=vF) (fun _ hS=>⟨jB (vl_d (sZ (f:=bW.vk) (l:=ts) (by have:=yF hb1;have:=yF hb2;omega) (sZ (f:=dO.vp) (l:=(gT ts i2).ks) (by have:=yF hb1;have:=yF hb2;omega) (dF hb8) hC) hB)),hS.bel⟩)
   rw [hb8]
   refine aG (aJ (aA ?_))
   refine rS Tryz.f31 2 [32,33,34,39,40,41] [] (fun _=>[vn (k+1),vn (k+1)]) (fun _=>[]) (jW (fun ρ=>(((k:Nat):Int)+1)) (fun _=>(k+1)) (fun _=>(aW k 1 (by have:=yF hb1;have:=yF hb2;omega)))<|jE [[]]) (fun _=>?_)
   exact mN (k+1) (by show (gT ts i2).ks.length-(k+1)<(gT ts i2).ks.length-k;have:=yF hb1;have:=yF hb2;omega) (⟨(by have:=yF hb1;have:=yF hb2;omega),sF (f:=dO.vp) (l:=(gT ts i2).ks) (by have:=yF hb1;have:=yF hb2;omega) (aV hb8) hC⟩) []
  rw [hb7]
  have:=yF hb7
  refine bF (aN (aN (aT (aJ (aA ?_)))))
  refine rS Tryz.f31 2 [32,33,34] [] (fun _=>[vn (i2+1),vn (i2+1)]) (fun _=>[]) (jW (fun ρ=>(((i2:Nat):Int)+1)) (fun _=>(i2+1)) (fun _=>(aW i2 1 (by have:=yF hb1;have:=yF hb2;omega)))<|jE [[]]) (fun _=>?_)
  exact mN (i2+1) (by show ts.length-(i2+1)<ts.length-i2;have:=yF hb1;have:=yF hb2;omega) (⟨(by have:=yF hb1;have:=yF hb2;omega),sF (f:=bW.vk) (l:=ts) (by have:=yF hb1;have:=yF hb2;omega) (xH (f:=dO.vp) (l:=(gT ts i2).ks) (by have:=yF hb1;have:=yF hb2;omega) hC) hB⟩) []
 rw [hb6]
 have:=yF hb6
 refine bF (aN (aN (aT (aA (jJ Tryz.f31 1 [2] [vT] (aF ?_))))))
 exact mR (v:=vT) (fun _ hS=>⟨jB (vl_e (by have:=yF hb1;have:=yF hb2;omega) (aV hb3) (xH (f:=bW.fd) (l:=ts) (by have:=yF hb1;have:=yF hb2;omega) hA) (xH (f:=bW.vk) (l:=ts) (by have:=yF hb1;have:=yF hb2;omega) hB)),hS.bel⟩)
theorem dranged_any (a:Option Addr) (c:Nat) (ts:List bW) (w0:World) (hf0:bM w0 a c ts):Calls Tryz.prog 32 #[.slice a ts.length c] w0 (jR (.bool (rgB ts)) w0):=by
 refine Calls.of_ok (n:=24) (F:=(fun w=>bM w a c ts∧True)) Tryz.func32 rfl rfl rfl (by simp) (hf0.pers0.and cO) ?_
 have hlen:ts.length≤1000000:=hf0.max
 have ho:mP ts:=hf0.oks
 refine jJ Tryz.f32 1 [0,2] [vF] (aB (jJ Tryz.f32 3 [2,7,8,9] [.slice a ts.length c,vn ts.length,vi 0] (aI ?_)))
 refine oL (σ:=Nat) (fun i2=>[(7,(.slice a ts.length c)),(8,(vn ts.length)),(9,(vn i2))]) (fun _=>[]) (fun i2=>ts.length-i2)
   (fun i2=>(i2≤ts.length)∧((ts.drop i2).any bW.rg=ts.any bW.rg)) 0 (⟨Nat.zero_le _,rfl⟩) [] ?_
 rintro i2 ⟨hi2,hB⟩
 change Ok Tryz.prog _ _ 24 [(7,(.slice a ts.length c)),(8,(vn ts.length)),(9,(vn i2))] _ [] (fun w=>bM w a c ts∧True)
 refine jJ Tryz.f32 1 [7,8,9,10] [.bool (decide (((i2:Nat):Int)<((ts.length:Nat):Int)))] (aB ?_)
 refine oC (decide (((i2:Nat):Int)<((ts.length:Nat):Int))) (fun hb1=>?_) (fun hb1=>?_)
 ·
  rw [hb1]
  have:=yT hb1
  refine aG (aA (aB (aI ?_)))
  refine sS Tryz.f32 4 [4,7,8,9] [] (fun ρ=>[.pointer (fK a (i2*36)),.agg (bW.row (gT ts i2)),pt (nb ρ 2),undef]) (fun ρ=>[(2,(nw ρ 2 (cL (iC 0 0 0 0 vz) 60))),(3,(bD 16 (nb ρ 2) (cL (bW.row (gT ts i2)) 60)))]) (cX (qF (fun _ _ _ hG=>bM.idx (k:=.i64) Tryz.underlying24 Tryz.sizeOf60 hG.fn.1 rfl (show ((i2:Nat):Int)=((i2:Nat):Int) from rfl) (show i2<ts.length from (by omega))))<|cX (qF (fun _ _ _ hG=>bM.ldA (i:=i2) Tryz.isAgg60 Tryz.sizeOf60 hG.fn.1 (show i2<ts.length from (by omega))))<|jE [[],[16]]) (fun ρ4=>?_)
  refine jM Tryz.f32 4 [7,8,9,14,15,16] [0] [jp (nb ρ4 2) 35,.slice (gT ts i2).ka (gT ts i2).ks.length (gT ts i2).kc,vn (gT ts i2).ks.length,vi 0] [[],[0],[],[]] (aI ?_)
  refine oL (σ:=Nat) (fun k=>[(7,(.slice a ts.length c)),(8,(vn ts.length)),(9,(vn i2)),(14,(.slice (gT ts i2).ka (gT ts i2).ks.length (gT ts i2).kc)),(15,(vn (gT ts i2).ks.length)),(16,(vn k))]) (fun _=>[]) (fun k=>(gT ts i2).ks.length-k)
    (fun k=>(k≤(gT ts i2).ks.length)∧(((gT ts i2).ks.drop k).any dO.wd=(gT ts i2).ks.any dO.wd)) 0 (⟨Nat.zero_le _,rfl⟩) [] ?_
  rintro k ⟨hk,hC⟩
  change Ok Tryz.prog _ _ 24 [(7,(.slice a ts.length c)),(8,(vn ts.length)),(9,(vn i2)),(14,(.slice (gT ts i2).ka (gT ts i2).ks.length (gT ts i2).kc)),(15,(vn (gT ts i2).ks.length)),(16,(vn k))] _ [] (fun w=>bM w a c ts∧True)
  have hkl:(gT ts i2).ks.length≤1000000:=ho.klen hf0 i2
  refine jJ Tryz.f32 1 [7,8,9,14,15,16,17] [.bool (decide (((k:Nat):Int)<(((gT ts i2).ks.length:Nat):Int)))] (aB ?_)
  refine oC (decide (((k:Nat):Int)<(((gT ts i2).ks.length:Nat):Int))) (fun hb2=>?_) (fun hb2=>?_)
  ·
   rw [hb2]
   have:=yT hb2
   refine aG (aA (aB (aI ?_)))
   refine sS Tryz.f32 4 [6,7,8,9,14,15,16] [] (fun ρ=>[.pointer (fK (gT ts i2).ka (k*45)),.agg (dO.row (gK (gT ts i2).ks k)),pt (nb ρ 2),undef]) (fun ρ=>[(2,(nw ρ 2 (cL (kM 0 0 0 0 0 0 vz vF) 69))),(3,(bD 16 (nb ρ 2) (cL (dO.row (gK (gT ts i2).ks k)) 69)))]) (cX (qF (fun _ _ _ hG=>oG.idx (k:=.i64) Tryz.underlying58 Tryz.sizeOf69 (hG.fn.1.sub _ (fA (show i2<ts.length from (by omega)))) rfl (show ((k:Nat):Int)=((k:Nat):Int) from rfl) (show k<(gT ts i2).ks.length from (by omega))))<|cX (qF (fun _ _ _ hG=>oG.ldA (i:=k) Tryz.isAgg69 Tryz.sizeOf69 (hG.fn.1.sub _ (fA (show i2<ts.length from (by omega)))) (show k<(gT ts i2).ks.length from (by omega))))<|jE [[],[16]]) (fun ρ7=>?_)
   refine jM Tryz.f32 2 [7,8,9,14,15,16,21] [0] [jp (nb ρ7 2) 44,.bool (gK (gT ts i2).ks k).wd] [[],[0]] ?_
   refine oC (gK (gT ts i2).ks k).wd (fun hb3=>?_) (fun hb3=>?_)
   ·
    rw [hb3]
    refine jJ Tryz.f32 1 [2,7,8,9,14,15,16] [vT] (aF (aP (aC (aC (aP (aP (aC (aC (aP (aC ?_))))))))))
    exact mR (v:=vT) (fun _ hS=>⟨jB (any_stop (f:=bW.rg) (l:=ts) (by omega) (any_stop (f:=dO.wd) (l:=(gT ts i2).ks) (by omega) hb3 hC) hB).symm,hS.bel⟩)
   rw [hb3]
   refine aG (aJ (aA ?_))
   refine rS Tryz.f32 2 [7,8,9,14,15,16] [] (fun _=>[vn (k+1),vn (k+1)]) (fun _=>[]) (jW (fun ρ=>(((k:Nat):Int)+1)) (fun _=>(k+1)) (fun _=>(aW k 1 (by omega)))<|jE [[]]) (fun _=>?_)
   exact mN (k+1) (by show (gT ts i2).ks.length-(k+1)<(gT ts i2).ks.length-k;omega) (⟨(by omega),any_next (f:=dO.wd) (l:=(gT ts i2).ks) (by omega) hb3 hC⟩) []
  rw [hb2]
  have:=yF hb2
  refine bF (aN (aN (aT (aJ (aA ?_)))))
  refine rS Tryz.f32 2 [7,8,9] [] (fun _=>[vn (i2+1),vn (i2+1)]) (fun _=>[]) (jW (fun ρ=>(((i2:Nat):Int)+1)) (fun _=>(i2+1)) (fun _=>(aW i2 1 (by omega)))<|jE [[]]) (fun _=>?_)
  exact mN (i2+1) (by show ts.length-(i2+1)<ts.length-i2;omega) (⟨(by omega),any_next (f:=bW.rg) (l:=ts) (by omega) (any_end (f:=dO.wd) (l:=(gT ts i2).ks) (by omega) hC) hB⟩) []
 rw [hb1]
 refine bF (aN (aN (aT (aA (jJ Tryz.f32 1 [2] [vF] (aF ?_))))))
 exact mR (v:=vF) (fun _ hS=>⟨jB (any_end (f:=bW.rg) (l:=ts) (by have:=yF hb1;omega) hB).symm,hS.bel⟩)
def Z64 (zs:List Int):Prop:=∀ z∈zs,-9223372036854775808≤z∧z<9223372036854775808
theorem Z64.get {zs:List Int} (h:Z64 zs) (i:Nat): -9223372036854775808≤gI zs i∧gI zs i<9223372036854775808:=by
  unfold gI
  by_cases hi:i<zs.length
  · rw [List.getD_eq_getElem?_getD, List.getElem?_eq_getElem hi]
    exact h _ (List.getElem_mem hi)
  · rw [List.getD_eq_getElem?_getD, List.getElem?_eq_none (by omega)]
    decide
theorem kprint_any (k:Ky) (_hk:k.Ok) (w0:World) (hf0:kJ w0) (hf1:fD w0):Calls Tryz.prog 158 #[.agg (kY k)] w0 (jR (vu (o8 k.p)) w0):=by
 refine Calls.of_ok (n:=26) (F:=(fun w=>kJ w∧fD w∧True)) Tryz.func158 rfl rfl rfl (by simp) (hf0.pers0.and (hf1.pers0.and cO)) ?_
 refine sS Tryz.f158 2 [1,2] [] (fun ρ=>[pt (nb ρ 0),.int .u32 0]) (fun ρ=>[(0,(nw ρ 0 (cL (kY k) 66)))]) (jE [[],[]]) (fun ρ1=>?_)
 refine sS Tryz.f158 5 [2,3] [0,1] (fun ρ=>[jp (nb ρ1 0) 4,U k.p,.agg (hB k.p),pt (nb ρ 3),undef]) (fun ρ=>[(3,(nw ρ 3 (cL (hB 0) 57))),(4,(bD 25 (nb ρ 3) (cL (hB k.p) 57)))]) (cR [[],[0]]<|cC (fun _ w=>pW k.p w)<|jE [[],[25]]) (fun ρ2=>?_)
 refine jJ Tryz.f158 1 [2,3,4] [.int .u32 0] ?_
 refine sS Tryz.f158 4 [2,4,5] [0,1] (fun ρ=>[vs (nb ρ2 3) (hL k.p).length 32,.agg (hB (aU (hL k.p))),pt (nb ρ 2),undef]) (fun ρ=>[(2,(nw ρ 2 (cL (hB 0) 57))),(3,(bD 17 (nb ρ 2) (cL (hB (aU (hL k.p))) 57)))]) (cR [[]]<|cX (qC (fun _ _ w hG=>sum_any (some ⟨nb ρ2 3,0,none⟩) 32 (hL k.p) (by rw [aO];decide) (by rw [aO];decide) w (Bs.of_hd (c:=32) (hG.kn (g:=nb ρ2 3) (o:=(cL (hB k.p) 57)) 0) (nP _) (Nat.le_refl _) (Nat.le_of_ble_eq_true rfl)) hG.fn.1 hG.fn.2.1))<|jE [[],[17]]) (fun ρ4=>?_)
 refine aB (jJ Tryz.f158 3 [2,4,13,14,15] [vs (nb ρ4 2) 4 32,vi 4,vi 0] (aI ?_))
 refine jY 5 ?_
 refine dI ?_
 refine jJ Tryz.f158 1 [2,4,13,14,15,16] [vT] (aB ?_)
 refine oY ?_
 refine aG (aA (aB (aI (jM Tryz.f158 3 [2,4,7,13,14,15,16,17,18] [] (let qa:Value:=.int .u8 (nR (aU (hL k.p)) 0);[pt (nb ρ4 2),qa,qa]) [[],[0],[]] ?_))))
 refine lK [(2,(.int .u32 0)),(4,(.int .u32 0)),(7,(.int .u8 (nR (aU (hL k.p)) 0))),(13,(vs (nb ρ4 2) 4 32)),(14,(vi 4)),(15,(vi 0)),(16,vT),(17,(pt (nb ρ4 2))),(18,(.int .u8 (nR (aU (hL k.p)) 0)))] [(nb ρ4 2,(cL (hB (aU (hL k.p))) 57))] ?_
 refine rS Tryz.f158 6 [2,4,7,13,14,15,16,17,18,19,20,21,22,23] [] (fun _=>let qa:=vu (hiN (aU (hL k.p)) 1);[.int .u32 0,.int .u32 0,.int .u8 (nR (aU (hL k.p)) 0),vu (bN (aU (hL k.p)) 0),qa,qa]) (fun _=>[]) (cR [[],[],[]]<|cA (fun _=>(vu (bN (aU (hL k.p)) 0))) (fun _=>jN (vI (aU (hL k.p)) 0))<|cA (v:=fun ρ=>(.int .u32 (bits .or .u32 0 ((bN (aU (hL k.p)) 0:Nat):Int)))) (fun _=>(vu (hiN (aU (hL k.p)) 1))) (fun _=>jN (or_hi (D:=(aU (hL k.p))) (j:=0) (by decide)))<|jE [[]]) (fun _=>?_)
 refine aJ (aA (jL Tryz.f158 2 [2,4,7,13,14,15,16,17,18,19,20,21,22,23,24] [] [vi 1,vi 1] [[],[]] (dV ?_)))
 refine dI ?_
 refine jJ Tryz.f158 1 [2,4,7,13,14,15,16,17,18,19,20,21,22,23,24] [vT] (aB ?_)
 refine oY ?_
 refine aG (aA (aB (aI (jM Tryz.f158 3 [2,4,7,13,14,15,16,17,18,19,20,21,22,23,24] [] (let qa:Value:=.int .u8 (nR (aU (hL k.p)) 1);[jp (nb ρ4 2) 1,qa,qa]) [[],[0],[]] ?_))))
 refine rS Tryz.f158 6 [2,4,7,13,14,15,16,17,18,19,20,21,22,23,24] [] (fun _=>let qa:=vu (hiN (aU (hL k.p)) 2);[vu (hiN (aU (hL k.p)) 1),vu (hiN (aU (hL k.p)) 1*256),.int .u8 (nR (aU (hL k.p)) 1),vu (bN (aU (hL k.p)) 1),qa,qa]) (fun _=>[]) (cR [[]]<|cB (a:=fun ρ=>(vu (hiN (aU (hL k.p)) 1))) (b:=fun ρ=>(.int .u64 8)) (v:=fun ρ=>(vu (hiN (aU (hL k.p)) 1*256))) .shl 55 (fun _ w=>run_hi8 (D:=(aU (hL k.p))) (j:=1) (by decide) w)<|cR [[]]<|cA (fun _=>(vu (bN (aU (hL k.p)) 1))) (fun _=>jN (vI (aU (hL k.p)) 1))<|cA (v:=fun ρ=>(.int .u32 (bits .or .u32 ((hiN (aU (hL k.p)) 1*256:Nat):Int) ((bN (aU (hL k.p)) 1:Nat):Int)))) (fun _=>(vu (hiN (aU (hL k.p)) 2))) (fun _=>jN (or_hi (D:=(aU (hL k.p))) (j:=1) (by decide)))<|jE [[]]) (fun _=>?_)
 refine aJ (aA (jL Tryz.f158 2 [2,4,7,13,14,15,16,17,18,19,20,21,22,23,24] [] [vi 2,vi 2] [[],[]] (dV ?_)))
 refine dI ?_
 refine jJ Tryz.f158 1 [2,4,7,13,14,15,16,17,18,19,20,21,22,23,24] [vT] ?_
 refine lK [(2,(.int .u32 0)),(4,(vu (hiN (aU (hL k.p)) 2))),(7,(.int .u8 (nR (aU (hL k.p)) 1))),(13,(vs (nb ρ4 2) 4 32)),(14,(vi 4)),(15,(vi 2)),(16,vT),(17,(jp (nb ρ4 2) 1)),(18,(.int .u8 (nR (aU (hL k.p)) 1))),(19,(vu (hiN (aU (hL k.p)) 1))),(20,(vu (hiN (aU (hL k.p)) 1*256))),(21,(.int .u8 (nR (aU (hL k.p)) 1))),(22,(vu (bN (aU (hL k.p)) 1))),(23,(vu (hiN (aU (hL k.p)) 2))),(24,(vi 2))] [(nb ρ4 2,(cL (hB (aU (hL k.p))) 57))] ?_
 refine aB ?_
 refine oY ?_
 refine aG (aA (aB (aI (jM Tryz.f158 3 [2,4,7,13,14,15,16,17,18,19,20,21,22,23,24] [] (let qa:Value:=.int .u8 (nR (aU (hL k.p)) 2);[jp (nb ρ4 2) 2,qa,qa]) [[],[0],[]] ?_))))
 refine rS Tryz.f158 6 [2,4,7,13,14,15,16,17,18,19,20,21,22,23,24] [] (fun _=>let qa:=vu (hiN (aU (hL k.p)) 3);[vu (hiN (aU (hL k.p)) 2),vu (hiN (aU (hL k.p)) 2*256),.int .u8 (nR (aU (hL k.p)) 2),vu (bN (aU (hL k.p)) 2),qa,qa]) (fun _=>[]) (cR [[]]<|cB (a:=fun ρ=>(vu (hiN (aU (hL k.p)) 2))) (b:=fun ρ=>(.int .u64 8)) (v:=fun ρ=>(vu (hiN (aU (hL k.p)) 2*256))) .shl 55 (fun _ w=>run_hi8 (D:=(aU (hL k.p))) (j:=2) (by decide) w)<|cR [[]]<|cA (fun _=>(vu (bN (aU (hL k.p)) 2))) (fun _=>jN (vI (aU (hL k.p)) 2))<|cA (v:=fun ρ=>(.int .u32 (bits .or .u32 ((hiN (aU (hL k.p)) 2*256:Nat):Int) ((bN (aU (hL k.p)) 2:Nat):Int)))) (fun _=>(vu (hiN (aU (hL k.p)) 3))) (fun _=>jN (or_hi (D:=(aU (hL k.p))) (j:=2) (by decide)))<|jE [[]]) (fun _=>?_)
 refine aJ (aA (jL Tryz.f158 2 [2,4,7,13,14,15,16,17,18,19,20,21,22,23,24] [] [vi 3,vi 3] [[],[]] (dV ?_)))
 refine dI ?_
 refine jJ Tryz.f158 1 [2,4,7,13,14,15,16,17,18,19,20,21,22,23,24] [vT] (aB ?_)
 refine oY ?_
 refine aG (aA (aB (aI (jM Tryz.f158 3 [2,4,7,13,14,15,16,17,18,19,20,21,22,23,24] [] (let qa:Value:=.int .u8 (nR (aU (hL k.p)) 3);[jp (nb ρ4 2) 3,qa,qa]) [[],[0],[]] ?_))))
 refine rS Tryz.f158 6 [2,4,7,13,14,15,16,17,18,19,20,21,22,23,24] [] (fun _=>let qa:=vu (hiN (aU (hL k.p)) 4);[vu (hiN (aU (hL k.p)) 3),vu (hiN (aU (hL k.p)) 3*256),.int .u8 (nR (aU (hL k.p)) 3),vu (bN (aU (hL k.p)) 3),qa,qa]) (fun _=>[]) (cR [[]]<|cB (a:=fun ρ=>(vu (hiN (aU (hL k.p)) 3))) (b:=fun ρ=>(.int .u64 8)) (v:=fun ρ=>(vu (hiN (aU (hL k.p)) 3*256))) .shl 55 (fun _ w=>run_hi8 (D:=(aU (hL k.p))) (j:=3) (by decide) w)<|cR [[]]<|cA (fun _=>(vu (bN (aU (hL k.p)) 3))) (fun _=>jN (vI (aU (hL k.p)) 3))<|cA (v:=fun ρ=>(.int .u32 (bits .or .u32 ((hiN (aU (hL k.p)) 3*256:Nat):Int) ((bN (aU (hL k.p)) 3:Nat):Int)))) (fun _=>(vu (hiN (aU (hL k.p)) 4))) (fun _=>jN (or_hi (D:=(aU (hL k.p))) (j:=3) (by decide)))<|jE [[]]) (fun _=>?_)
 refine aJ (aA (jL Tryz.f158 2 [2,4,7,13,14,15,16,17,18,19,20,21,22,23,24] [] [vi 4,vi 4] [[],[]] (dV ?_)))
 refine dI ?_
 refine jJ Tryz.f158 1 [2,4,7,13,14,15,16,17,18,19,20,21,22,23,24] [vF] ?_
 refine lK [(2,(.int .u32 0)),(4,(vu (hiN (aU (hL k.p)) 4))),(7,(.int .u8 (nR (aU (hL k.p)) 3))),(13,(vs (nb ρ4 2) 4 32)),(14,(vi 4)),(15,(vi 4)),(16,vF),(17,(jp (nb ρ4 2) 3)),(18,(.int .u8 (nR (aU (hL k.p)) 3))),(19,(vu (hiN (aU (hL k.p)) 3))),(20,(vu (hiN (aU (hL k.p)) 3*256))),(21,(.int .u8 (nR (aU (hL k.p)) 3))),(22,(vu (bN (aU (hL k.p)) 3))),(23,(vu (hiN (aU (hL k.p)) 4))),(24,(vi 4))] [(nb ρ4 2,(cL (hB (aU (hL k.p))) 57))] ?_
 refine aB ?_
 refine oN ?_
 refine bF (aN (aN (aT (aA (jM Tryz.f158 2 [2] [0] [vu (hiN (aU (hL k.p)) 4),vu (hiN (aU (hL k.p)) 4)] [[],[]] (aF ?_))))))
 exact mR (v:=(vu (hiN (aU (hL k.p)) 4))) (fun _ hS=>⟨rfl,hS.bel⟩)
def kpL (K:Nat):List UInt8:=hL K++List.replicate 32 0
theorem kpL_len (K:Nat):(kpL K).length=64:=by simp [kpL,aO]
theorem eP (v:UInt8) (K:Nat):(xB v K).length=64:=by simp [xB,aO]
theorem xB_get (v:UInt8) (K:Nat) {i:Nat} (h:i<64):gB (xB v K) i=gB (kpL K) i^^^v.toNat:=by
  have hk:i<(kpL K).length:=by rw [kpL_len];exact h
  unfold gB xB
  rw [show hL K++List.replicate 32 0=kpL K from rfl,List.getD_eq_getElem?_getD,List.getD_eq_getElem?_getD,List.getElem?_map,List.getElem?_eq_getElem hk]
  simp
def hmf (v:UInt8) (K m i:Nat):Nat:=if i<m then gB (xB v K) i else gB (kpL K) i
theorem hmf_at {v:UInt8} {K i:Nat}:hmf v K i i=gB (kpL K) i:=by unfold hmf;rw [if_neg (by omega)]
theorem xor8 {a b:Nat} (ha:a<256) (hb:b<256):bits .xor .u8 (a:Int) (b:Int)=((a^^^b:Nat):Int):=bits_xorU rfl ha hb
theorem hm_xor {v:UInt8} {K i:Nat} (h:i<64):bits .xor .u8 ((gB (kpL K) i:Nat):Int) ((v.toNat:Nat):Int)=((gB (xB v K) i:Nat):Int):=by
  rw [xor8 (iD _ _) (UInt8.toNat_lt v),xB_get v K h]
theorem hmf_set {v:UInt8} {K m:Nat}:(bY .u8 64 (hmf v K m)).setIfInBounds m (.int .u8 ((gB (xB v K) m:Nat):Int))=bY .u8 64 (hmf v K (m+1)):=by
  rw [wI]
  refine fG fun i _=>?_
  unfold hmf
  by_cases h:i=m
  · subst h;rw [if_pos rfl,if_pos (by omega)]
  · rw [if_neg h]
    by_cases h2:i<m
    · rw [if_pos h2,if_pos (by omega)]
    · rw [if_neg h2,if_neg (by omega)]
theorem rowK_bs {xs:List UInt8} {n:Nat} (h:xs.length=n):bY .u8 n (gB xs)=(bs xs).toArray:=by
  subst h
  unfold bY bs
  congr 1
  apply List.ext_getElem
  · simp
  · intro i h1 h2
    have hi:i<xs.length:=by simpa using h1
    simp [gB,bv,List.getD_eq_getElem?_getD,List.getElem?_eq_getElem hi]
theorem hmf_end {v:UInt8} {K m:Nat} (h:64≤m):bY .u8 64 (hmf v K m)=(bs (xB v K)).toArray:=by
  rw [← rowK_bs (eP v K)]
  exact fG fun i hi=>by unfold hmf;rw [if_pos (by omega)]
theorem hmf_zero (v:UInt8) (K:Nat):(bs (kpL K)).toArray=bY .u8 64 (hmf v K 0):=by
  rw [← rowK_bs (kpL_len K)]
  exact fG fun i hi=>by unfold hmf;rw [if_neg (by omega)]
theorem hm_copy (K:Nat):inpl (bY .u8 64 (fun _=>0)) 0 (bs ((hL K).take 64))=(bs (kpL K)).toArray:=by
  rw [List.take_of_length_le (by rw [aO];decide)]
  have e:bY .u8 64 (fun _=>0)=(bs (List.replicate 64 0)).toArray:=by
    rw [← rowK_bs (List.length_replicate ..)]
    exact fG fun i hi=>by unfold gB;rw [List.getD_eq_getElem?_getD,List.getElem?_replicate,if_pos hi];rfl
  rw [e]
  unfold inpl kpL bs
  simp [aO]
theorem kC_chain (s p c:Nat) (d i n:Int) (j:Nat) (hj:j<32):(kC s p c d i n)[8+j]? = (hB c)[j]? := by
  unfold kC
  rw [Array.getElem?_append_left (by simp [cU,yV];omega),Array.getElem?_append_right (by simp [cU]),show 8+j-(cU s++cU p).size=j by simp [cU]]
theorem Bs.of_key {w:World} {g s p c:Nat} {d i n:Int} {T:TypeId} {fr:Nat × Nat} (hb:w.heap[g]? = some (.cells (kC s p c d i n) T fr)):Bs w (some ⟨g,8,none⟩) 32 (hL c):=by
  refine ⟨by rw [aO];exact Nat.le_refl _,by rw [aO];decide,Or.inr ⟨_,rfl,fun j v hv=>?_⟩⟩
  have hj:j<32:=by
    have:=(List.getElem?_eq_some_iff.1 hv).1
    rw [dH,aO] at this;exact this
  have h1:(hB c)[j]? = some v:=by
    have hh:=nP c
    unfold Hd at hh
    rw [← hh,List.getElem?_take,if_pos (by rw [aO];exact hj)] at hv
    simpa using hv
  rw [show (⟨g,8,none⟩:Addr).add j=⟨g,8+j,none⟩ by simp [Addr.add]]
  unfold World.cell?
  simp only [hb]
  rw [← h1,← kC_chain s p c d i n j hj]
  simp
theorem hmac_any (a:Option Addr) (c:Nat) (K:Nat) (a2:Option Addr) (c2:Nat) (S:List UInt8) (hl:S.length+200≤140737488351232) (w0:World) (hf0:Bs w0 a c (hL K)) (hf1:Bs w0 a2 c2 S) (hf2:kJ w0) (hf3:fD w0):Calls Tryz.prog 157 #[.slice a (hL K).length c,.slice a2 S.length c2] w0 (jR (.agg (hB (hmN K S))) w0):=by
 refine Calls.of_ok (n:=46) (F:=(fun w=>Bs w a c (hL K)∧Bs w a2 c2 S∧kJ w∧fD w∧True)) Tryz.func157 rfl rfl rfl (by simp) (hf0.pers0.and (hf1.pers0.and (hf2.pers0.and (hf3.pers0.and cO)))) ?_
 refine sS Tryz.f157 1 [0,1,4] [] (fun ρ=>[pt (nb ρ 0)]) (fun ρ=>[(0,(nw ρ 0 (cL (hB 0) 57)))]) (jE [[]]) (fun ρ1=>?_)
 refine aB ?_
 refine sS Tryz.f157 3 [0,1,4,12] [] (fun _=>[.slice a (hL K).length c,vn (hL K).length,vF]) (fun _=>[]) (cR [[],[]]<|jQ (fun ρ=>(decide (64<(((hL K).length:Nat):Int)))) false (fun _=>(decide_eq_false (by rw [aO];decide)))<|cN) (fun _=>?_)
 refine oN ?_
 refine aG (aA ?_)
 refine sS Tryz.f157 2 [0,1,4,6,7] [] (fun ρ=>[pt (nb ρ 0),pt (nb ρ 1)]) (fun ρ=>[(0,(nw ρ 0 (cL (bY .u8 64 (fun _=>0)) 165))),(1,(nw ρ 1 (cL (bY .u8 64 (fun _=>0)) 165)))]) (jE [[],[]]) (fun ρ3=>?_)
 refine sS Tryz.f157 3 [0,1,4,6,7] [] (fun _=>[vs (nb ρ3 0) 64 64,.slice a (hL K).length c,vn (Nat.min (hL K).length 64)]) (fun _=>[(2,(bD 1 (nb ρ3 0) (cL (bs (kpL K)).toArray 165)))]) (cR [[],[]]<|cX (o9 _ 1 (fun _=>do pure (Next.value (← Builtin.copy_ #[37,37] 3 #[vs (nb ρ3 0) 64 64,.slice a (hL K).length c]))) (fun _=>nb ρ3 0) (fun _=>(cL (bY .u8 64 (fun _=>0)) 165)) (fun _=>(cL (bs (kpL K)).toArray 165)) (fun _=>(vn (Nat.min (hL K).length 64))) (fun _=>(by kernel_rfl)) (fun _=>(by kernel_rfl)) (fun _=>(by kernel_rfl)) (fun _=>(by kernel_rfl)) (fun _ _=>trivial) (fun _ _ _ hG hg=>(by as_aux_lemma=>(rw [← hm_copy K];exact copy_row Tryz.underlying37 nH hg hG.fn.1 rfl (Nat.le_of_eq (eH _ 64 _).symm)))))<|cN) (fun _=>?_)
 refine sS Tryz.f157 3 [1,4,6,7] [] (fun _=>[vs (nb ρ3 1) 64 64,.slice a (hL K).length c,vn (Nat.min (hL K).length 64)]) (fun _=>[(2,(bD 2 (nb ρ3 1) (cL (bs (kpL K)).toArray 165)))]) (cR [[],[]]<|cX (o9 _ 2 (fun _=>do pure (Next.value (← Builtin.copy_ #[37,37] 3 #[vs (nb ρ3 1) 64 64,.slice a (hL K).length c]))) (fun _=>nb ρ3 1) (fun _=>(cL (bY .u8 64 (fun _=>0)) 165)) (fun _=>(cL (bs (kpL K)).toArray 165)) (fun _=>(vn (Nat.min (hL K).length 64))) (fun _=>(by kernel_rfl)) (fun _=>(by kernel_rfl)) (fun _=>(by kernel_rfl)) (fun _=>(by kernel_rfl)) (fun _ _=>trivial) (fun _ _ _ hG hg=>(by as_aux_lemma=>(rw [← hm_copy K];exact copy_row Tryz.underlying37 nH hg hG.fn.1 rfl (Nat.le_of_eq (eH _ 64 _).symm)))))<|cN) (fun _=>?_)
 refine aB (jJ Tryz.f157 1 [1,4,6,7,22] [vi 0] (aI ?_))
 refine oL (σ:=Nat × (Array Value) × (Array Value)) (fun ⟨m,_,_⟩=>[(1,(.slice a2 S.length c2)),(4,(pt (nb ρ1 0))),(6,(pt (nb ρ3 0))),(7,(pt (nb ρ3 1))),(22,(vn m))]) (fun ⟨_,C1,C2⟩=>[(nb ρ1 0,(cL (hB 0) 57)),(nb ρ3 0,(cL C1 165)),(nb ρ3 1,(cL C2 165))]) (fun ⟨m,_,_⟩=>64-m)
   (fun ⟨m,C1,C2⟩=>(m≤64)∧(C1=bY .u8 64 (hmf 54 K m))∧(C2=bY .u8 64 (hmf 92 K m))) (0,(bs (kpL K)).toArray,(bs (kpL K)).toArray) (⟨by decide,hmf_zero 54 K,hmf_zero 92 K⟩) [] ?_
 rintro ⟨m,C1,C2⟩ ⟨hm,hC1,hC2⟩
 change Ok Tryz.prog _ _ 46 [(1,(.slice a2 S.length c2)),(4,(pt (nb ρ1 0))),(6,(pt (nb ρ3 0))),(7,(pt (nb ρ3 1))),(22,(vn m))] _ [(nb ρ1 0,(cL (hB 0) 57)),(nb ρ3 0,(cL C1 165)),(nb ρ3 1,(cL C2 165))] (fun w=>Bs w a c (hL K)∧Bs w a2 c2 S∧kJ w∧fD w∧True)
 refine jJ Tryz.f157 1 [1,4,6,7,22,23] [.bool (decide (((m:Nat):Int)<64))] (aB ?_)
 refine oC (decide (((m:Nat):Int)<64)) (fun hb1=>?_) (fun hb1=>?_)
 ·
  rw [hb1]
  have:=yT hb1
  refine aG (aA (aB (aI (jJ Tryz.f157 2 [1,4,6,7,8,22] [vn m,vn m] ?_))))
  refine sS Tryz.f157 6 [1,4,6,7,8,22] [] (fun _=>[vn m,jp (nb ρ3 0) m,vy (gB (kpL K) m),vy (gB (xB 54 K) m),jp (nb ρ3 0) m,undef]) (fun _=>[(5,(bD 1 (nb ρ3 0) (cL (bY .u8 64 (hmf 54 K (m+1))) 165)))]) (cR [[]]<|cX (jS (fun _=>Instr.indexAt 165 (pt (nb ρ3 0)) (vn m)) (fun _=>(jp (nb ρ3 0) m)) (fun _ w=>aX (n:=((m:Nat):Int)) (i:=m) Tryz.underlying165 Tryz.sizeOf5 (by omega) w))<|cX (kG _ 1 5 (fun _=>nb ρ3 0) (fun _=>m) (fun _=>C1) 165 (0,0) (fun _=>(vy (gB (kpL K) m))) (fun _=>by kernel_rfl) Tryz.isAgg5 (fun _=>(by rw [hC1,nG (by omega),hmf_at])))<|cA (v:=fun ρ=>(.int .u8 (bits .xor .u8 ((gB (kpL K) m:Nat):Int) 54))) (fun _=>(vy (gB (xB 54 K) m))) (fun _=>congrArg (Value.int .u8) (hm_xor (v:=54) (K:=K) (i:=m) (by omega)))<|cX (jS (fun _=>Instr.indexAt 165 (pt (nb ρ3 0)) (vn m)) (fun _=>(jp (nb ρ3 0) m)) (fun _ w=>aX (n:=((m:Nat):Int)) (i:=m) Tryz.underlying165 Tryz.sizeOf5 (by omega) w))<|cX (qG _ 1 5 (fun _=>nb ρ3 0) (fun _=>m) (fun _=>C1) (fun _=>(bY .u8 64 (hmf 54 K (m+1)))) 165 (fun _=>(vy (gB (xB 54 K) m))) (fun _=>by kernel_rfl) Tryz.sizeOf5 (fun _=>rfl) (fun _=>(by rw [hC1,eH];omega)) (fun _=>(by rw [hC1];exact hmf_set)))<|cN) (fun _=>?_)
  refine rS Tryz.f157 6 [1,4,6,7,22] [] (fun _=>[vn m,jp (nb ρ3 1) m,vy (gB (kpL K) m),vy (gB (xB 92 K) m),jp (nb ρ3 1) m,undef]) (fun _=>[(5,(bD 2 (nb ρ3 1) (cL (bY .u8 64 (hmf 92 K (m+1))) 165)))]) (cR [[]]<|cX (jS (fun _=>Instr.indexAt 165 (pt (nb ρ3 1)) (vn m)) (fun _=>(jp (nb ρ3 1) m)) (fun _ w=>aX (n:=((m:Nat):Int)) (i:=m) Tryz.underlying165 Tryz.sizeOf5 (by omega) w))<|cX (kG _ 2 5 (fun _=>nb ρ3 1) (fun _=>m) (fun _=>C2) 165 (0,0) (fun _=>(vy (gB (kpL K) m))) (fun _=>by kernel_rfl) Tryz.isAgg5 (fun _=>(by rw [hC2,nG (by omega),hmf_at])))<|cA (v:=fun ρ=>(.int .u8 (bits .xor .u8 ((gB (kpL K) m:Nat):Int) 92))) (fun _=>(vy (gB (xB 92 K) m))) (fun _=>congrArg (Value.int .u8) (hm_xor (v:=92) (K:=K) (i:=m) (by omega)))<|cX (jS (fun _=>Instr.indexAt 165 (pt (nb ρ3 1)) (vn m)) (fun _=>(jp (nb ρ3 1) m)) (fun _ w=>aX (n:=((m:Nat):Int)) (i:=m) Tryz.underlying165 Tryz.sizeOf5 (by omega) w))<|cX (qG _ 2 5 (fun _=>nb ρ3 1) (fun _=>m) (fun _=>C2) (fun _=>(bY .u8 64 (hmf 92 K (m+1)))) 165 (fun _=>(vy (gB (xB 92 K) m))) (fun _=>by kernel_rfl) Tryz.sizeOf5 (fun _=>rfl) (fun _=>(by rw [hC2,eH];omega)) (fun _=>(by rw [hC2];exact hmf_set)))<|cN) (fun _=>?_)
  refine aJ (aA ?_)
  refine rS Tryz.f157 2 [1,4,6,7,22] [] (fun _=>[vn (m+1),vn (m+1)]) (fun _=>[]) (jW (fun ρ=>(((m:Nat):Int)+1)) (fun _=>(m+1)) (fun _=>(aW m 1 (by omega)))<|jE [[]]) (fun _=>?_)
  exact mN (m+1,bY .u8 64 (hmf 54 K (m+1)),bY .u8 64 (hmf 92 K (m+1))) (by show 64-(m+1)<64-m;omega) (⟨(by omega),rfl,rfl⟩) []
 rw [hb1]
 refine bF (aN (aN (aT ?_)))
 rw [hC1]
 rw [hC2]
 refine aA ?_
 refine iZ Tryz.f157 7 [4,7,9] [1,0,1,0,1] (fun ρ=>[vs (nb ρ3 0) (xB 54 K).length 64,.slice a2 S.length c2,vs (nb ρ 2) 2 2,.slice (oa ρ 3) ((xB 54 K)++S).length (nb ρ 3),.agg (hB (aU ((xB 54 K)++S))),pt (nb ρ 5),undef]) (fun ρ=>[(2,(nw ρ 2 (cL #[vs (nb ρ3 0) (xB 54 K).length 64,.slice a2 S.length c2] 37))),(5,(nw ρ 5 (cL (hB 0) 57))),(6,(bD 43 (nb ρ 5) (cL (hB (aU ((xB 54 K)++S))) 57)))]) (fun ρ=>[(3,fun w=>Fs w0 w (oa ρ 3) (nb ρ 3) ((xB 54 K)++S))]) (fun ρ=>(fun w=>Bs w a c (hL K)∧Bs w a2 c2 S∧kJ w∧fD w∧Fs w0 w (oa ρ 3) (nb ρ 3) ((xB 54 K)++S)∧True)) (fun _=>True) (fun _ _ hF hf=>⟨⟨hF.1,hF.2.1,hF.2.2.1,hF.2.2.2.1,hf 3,trivial⟩,trivial⟩) (cR [[],[],[]]<|cX (qB (fun ρ _ w hG=>yA (nb ρ 2) (some ⟨nb ρ3 0,0,none⟩) 64 (xB 54 K) a2 c2 S (by simp only [eP];omega) (by rw [eP];decide) w (Kb.of_block (hG.kn (g:=nb ρ 2) (o:=(cL #[vs (nb ρ3 0) (xB 54 K).length 64,.slice a2 S.length c2] 37)) 19)) (Bs.of_hd (c:=64) (hG.kn (g:=nb ρ3 0) (o:=(cL (bY .u8 64 (hmf 54 K m)) 165)) 1) (by rw [hmf_end (by have:=yF hb1;omega)];exact Hd.all _) (Nat.le_of_eq (eP _ _)) (by rw [eP];decide)) hG.fn.2.1))<|cX (qC (fun ρ _ w hG=>sum_any (oa ρ 3) (nb ρ 3) ((xB 54 K)++S) (by simp only [List.length_append,eP];omega) (by simp only [List.length_append,eP];omega) w (show Fs w0 w (oa ρ 3) (nb ρ 3) ((xB 54 K)++S) from (hG.facts 3 rfl).now).1 hG.fn.2.2.1 hG.fn.2.2.2.1))<|jE [[],[43]]) (fun ρ12 _=>?_)
 refine sDf Tryz.f157 [0,0,3,7,15,31] 6 [4] [1,0,0,0] (fun ρ=>[vs (nb ρ3 1) (xB 92 K).length 64,vs (nb ρ12 5) (hL (aU ((xB 54 K)++S))).length 32,vs (nb ρ 2) 2 2,.slice (oa ρ 3) ((xB 92 K)++(hL (aU ((xB 54 K)++S)))).length (nb ρ 3),.agg (hB (aU ((xB 92 K)++(hL (aU ((xB 54 K)++S)))))),undef]) (fun ρ=>[(2,(nw ρ 2 (cL #[vs (nb ρ3 1) (xB 92 K).length 64,vs (nb ρ12 5) (hL (aU ((xB 54 K)++S))).length 32] 37))),(5,(bD 0 (nb ρ1 0) (cL (hB (aU ((xB 92 K)++(hL (aU ((xB 54 K)++S)))))) 57)))]) (fun ρ=>[(3,fun w=>Fs w0 w (oa ρ 3) (nb ρ 3) ((xB 92 K)++(hL (aU ((xB 54 K)++S)))))]) (fun ρ=>(fun w=>Bs w a c (hL K)∧Bs w a2 c2 S∧kJ w∧fD w∧Fs w0 w (oa ρ12 3) (nb ρ12 3) ((xB 54 K)++S)∧Fs w0 w (oa ρ 3) (nb ρ 3) ((xB 92 K)++(hL (aU ((xB 54 K)++S))))∧True)) (fun _=>True) (fun _ _ hF hf=>⟨⟨hF.1,hF.2.1,hF.2.2.1,hF.2.2.2.1,hF.2.2.2.2.1,hf 3,trivial⟩,trivial⟩) (cR [[],[],[]]<|cX (qB (fun ρ _ w hG=>yA (nb ρ 2) (some ⟨nb ρ3 1,0,none⟩) 64 (xB 92 K) (some ⟨nb ρ12 5,0,none⟩) 32 (hL (aU ((xB 54 K)++S))) (by simp only [eP,aO];omega) (by rw [eP];decide) w (Kb.of_block (hG.kn (g:=nb ρ 2) (o:=(cL #[vs (nb ρ3 1) (xB 92 K).length 64,vs (nb ρ12 5) (hL (aU ((xB 54 K)++S))).length 32] 37)) 19)) (Bs.of_hd (c:=64) (hG.kn (g:=nb ρ3 1) (o:=(cL (bY .u8 64 (hmf 92 K m)) 165)) 1) (by rw [hmf_end (by have:=yF hb1;omega)];exact Hd.all _) (Nat.le_of_eq (eP _ _)) (by rw [eP];decide)) (Bs.of_hd (c:=32) (hG.kn (g:=nb ρ12 5) (o:=(cL (hB (aU ((xB 54 K)++S))) 57)) 2) (nP _) (Nat.le_refl _) (Nat.le_of_ble_eq_true rfl))))<|cX (qC (fun ρ _ w hG=>sum_any (oa ρ 3) (nb ρ 3) ((xB 92 K)++(hL (aU ((xB 54 K)++S)))) (by simp only [List.length_append,eP];omega) (by simp only [List.length_append,eP,aO];omega) w (show Fs w0 w (oa ρ 3) (nb ρ 3) ((xB 92 K)++(hL (aU ((xB 54 K)++S)))) from (hG.facts 3 rfl).now).1 hG.fn.2.2.1 hG.fn.2.2.2.1))<|jE [[0]]) (fun _ _=>?_)
 refine aF ?_
 exact mR (v:=(.agg (hB (aU ((xB 92 K)++(hL (aU ((xB 54 K)++S)))))))) (fun _ hS=>⟨rfl,hS.bel⟩)
theorem grow0_any (n:Nat) (hn:0<n∧n≤140737488351232) (w0:World):Calls Tryz.prog 197 #[vz,vn n] w0 (fun ε w'=>∃ z:List Nat,ε=.returned (vs (z.headD 0) 0 (z.tail.headD 0))∧jG w0 w'∧w0.heap.size≤z.headD 0∧w'.heap[z.headD 0]? = some (cL (zB (z.tail.headD 0)) 5)):=by
 refine Calls.of_ok (n:=27) (F:=(fun _=>True)) Tryz.func197 rfl rfl rfl (by simp) jT ?_
 refine jJ Tryz.f197 1 [0,1,4] [vz] (aB ?_)
 refine sS Tryz.f197 2 [0,1,4,6] [] (fun _=>[vn n,vF]) (fun _=>[]) (cR [[]]<|jQ (fun ρ=>(decide (((n:Nat):Int)<0))) false (fun _=>(decide_eq_false (Int.not_lt.2 (Int.natCast_nonneg _))))<|cN) (fun _=>?_)
 refine oN ?_
 refine aG (aA (aB ?_))
 refine sS Tryz.f197 8 [0,1,4] [] (fun _=>[vn n,vz,vi 0,vz,vi 0,vi 0,vn n,vn n]) (fun _=>[]) (cR [[],[],[],[],[],[]]<|jW (fun ρ=>(((n:Nat):Int)-0)) (fun _=>n) (fun _=>((gZ (by omega)).trans (by omega)))<|jE [[]]) (fun _=>?_)
 refine sS Tryz.f197 2 [0,1,4,16] [] (fun _=>[vn n,vT]) (fun _=>[]) (cR [[]]<|jQ (fun ρ=>(decide (0<((n:Nat):Int)))) true (fun _=>(decide_eq_true (by omega)))<|cN) (fun _=>?_)
 refine oY ?_
 refine rS Tryz.f197 10 [0,4] [] (fun ρ=>let qa:=vs (nb ρ 5) (mid (List.replicate n (0:UInt8)) 0 0).length (n+aZ ρ 5);[vz,vz,vi 0,vz,vn n,vs (nb ρ 5) (List.replicate n (0:UInt8)).length (n+aZ ρ 5),vz,vi 0,qa,qa]) (fun ρ=>[(5,(nw ρ 5 (cL (zB (n+aZ ρ 5)) 5)))]) (cR [[],[],[],[],[]]<|cX (qN (fun _ ζ=>(vs (ζ.headD 0) (List.replicate n (0:UInt8)).length (n+ζ.tail.headD 0))) (fun _ ζ=>(cL (zB (n+ζ.tail.headD 0)) 5)) (fun _ _ _ _=>app_zeros (ty:=37) Tryz.underlying37 nH Tryz.underlying3 hn.1 hn.2))<|cR [[],[]]<|cX (o_semF _ (fun ρ=>do pure (Next.value (← Instr.sliceAt 37 (vs (nb ρ 5) (List.replicate n (0:UInt8)).length (n+aZ ρ 5)) none (some (vi 0)) none))) (fun ρ=>(vs (nb ρ 5) (mid (List.replicate n (0:UInt8)) 0 0).length (n+aZ ρ 5))) (fun _=>(by kernel_rfl)) (fun _=>(by kernel_rfl)) (fun ρ _ _ hG=>(vH (l:=0) (k:=0) Tryz.underlying37 nH (Bs.of_hd (hG.kn (g:=nb ρ 5) (o:=(cL (zB (n+aZ ρ 5)) 5)) 40) (hdz_le _ _) (by rw [List.length_replicate];exact Nat.le_add_right _ _) (by rw [List.length_replicate];exact hn.2)) rfl (Or.inl ⟨rfl,rfl⟩) (Or.inr (congrArg (fun z=>some (Value.int .i64 z)) (rfl))) (Nat.le_refl _) (Nat.zero_le _)).trans (by rw [sadr_zero,Nat.sub_zero])) (fun _ _ _ _=>cO))<|jE [[]]) (fun ρ5=>?_)
 refine aA (jJ Tryz.f197 2 [4] (let qa:=vs (nb ρ5 5) (mid (List.replicate n (0:UInt8)) 0 0).length (n+aZ ρ5 5);[qa,qa]) (aF ?_))
 exact mR (v:=(vs (nb ρ5 5) (mid (List.replicate n (0:UInt8)) 0 0).length (n+aZ ρ5 5))) (fun _ hS=>⟨[nb ρ5 5,n+aZ ρ5 5],rfl,hS.bel,(hS.newb (.head _)).1,(hS.newb (.head _)).2⟩)
theorem concat2_any (g:Nat) (a0:Option Addr) (c0:Nat) (B0:List UInt8) (a1:Option Addr) (c1:Nat) (B1:List UInt8) (hl:B0.length+B1.length≤140737488351232) (h0:0<B0.length) (w0:World) (hf0:Kb w0 g #[.slice a0 B0.length c0,.slice a1 B1.length c1]) (hf1:Bs w0 a0 c0 B0) (hf2:Bs w0 a1 c1 B1):Calls Tryz.prog 177 #[vs g 2 2] w0 (fun ε w'=>∃ α κ,ε=.returned (.slice α (B0++B1).length κ)∧jG w0 w'∧Fs w0 w' α κ (B0++B1)):=by
 refine Calls.of_ok (n:=36) (F:=(fun w=>Kb w g #[.slice a0 B0.length c0,.slice a1 B1.length c1]∧Bs w a0 c0 B0∧Bs w a1 c1 B1∧True)) Tryz.func177 rfl rfl rfl (by simp) (hf0.pers0.and (hf1.pers0.and (hf2.pers0.and cO))) ?_
 refine jJ Tryz.f177 1 [0,2] [vz] (jJ Tryz.f177 1 [0,2,3] [vi 0] (aB (jJ Tryz.f177 3 [0,2,3,9,10,11] [vs g 2 2,vi 2,vi 0] (aI ?_))))
 refine jY 3 ?_
 refine dI ?_
 refine jJ Tryz.f177 1 [0,2,3,9,10,11,12] [vT] (aB ?_)
 refine oY ?_
 refine aG (aA (aB (aI ?_)))
 refine sS Tryz.f177 3 [0,2,3,5,9,10,11,12,13,14] [] (fun _=>[pt g,.slice a0 B0.length c0,.slice a0 B0.length c0]) (fun _=>[]) (cR [[]]<|cX (qF (v:=fun ρ=>(.slice a0 B0.length c0)) (fun _ _ _ hG=>mY (off:=0) Tryz.isAgg37 hG.fn.1 (rfl)))<|jE [[]]) (fun _=>?_)
 refine sS Tryz.f177 5 [0,2,3,5,9,10,11,12,13,14,15,16,17,18] [] (fun _=>[vi 0,.slice a0 B0.length c0,vn B0.length,vn B0.length,vn B0.length]) (fun _=>[]) (cR [[],[],[]]<|jW (fun ρ=>(0+((B0.length:Nat):Int))) (fun _=>B0.length) (fun _=>((gZ (by omega)).trans (by omega)))<|jE [[]]) (fun _=>?_)
 refine sS Tryz.f177 2 [0,2,3,5,9,10,11,12,13,14,15,16,17,18,19,20] [] (fun _=>[vn B0.length,vF]) (fun _=>[]) (cR [[]]<|jQ (fun ρ=>(decide (((B0.length:Nat):Int)<0))) false (fun _=>(decide_eq_false (Int.not_lt.2 (Int.natCast_nonneg _))))<|cN) (fun _=>?_)
 refine lK [(0,(vs g 2 2)),(2,vz),(3,(vn B0.length)),(5,(.slice a0 B0.length c0)),(9,(vs g 2 2)),(10,(vi 2)),(11,(vi 0)),(12,vT),(13,(pt g)),(14,(.slice a0 B0.length c0)),(15,(vi 0)),(16,(.slice a0 B0.length c0)),(17,(vn B0.length)),(18,(vn B0.length)),(19,(vn B0.length)),(20,vF)] [] ?_
 refine oN ?_
 refine aG (aJ (aA (jL Tryz.f177 2 [0,2,3,5,9,10,11,12,13,14,15,16,17,18,19,20,22] [] [vi 1,vi 1] [[],[]] (dV ?_))))
 refine dI ?_
 refine jJ Tryz.f177 1 [0,2,3,5,9,10,11,12,13,14,15,16,17,18,19,20,22] [vT] (aB ?_)
 refine oY ?_
 refine aG (aA (aB (aI ?_)))
 refine sS Tryz.f177 3 [0,2,3,5,9,10,11,12,13,14,15,16,17,18,19,20,22] [] (fun _=>[jp g 1,.slice a1 B1.length c1,.slice a1 B1.length c1]) (fun _=>[]) (cR [[]]<|cX (qF (v:=fun ρ=>(.slice a1 B1.length c1)) (fun _ _ _ hG=>mY (off:=1) Tryz.isAgg37 hG.fn.1 (rfl)))<|jE [[]]) (fun _=>?_)
 refine sS Tryz.f177 5 [0,2,3,5,9,10,11,12,13,14,15,16,17,18,19,20,22] [] (fun _=>let qa:=vn (B0.length+B1.length);[vn B0.length,.slice a1 B1.length c1,vn B1.length,qa,qa]) (fun _=>[]) (cR [[],[],[]]<|jW (fun ρ=>(((B0.length:Nat):Int)+((B1.length:Nat):Int))) (fun _=>(B0.length+B1.length)) (fun _=>(aW B0.length B1.length (by omega)))<|jE [[]]) (fun _=>?_)
 refine sS Tryz.f177 2 [0,2,3,5,9,10,11,12,13,14,15,16,17,18,19,20,22] [] (fun _=>[vn (B0.length+B1.length),vF]) (fun _=>[]) (cR [[]]<|jQ (fun ρ=>(decide (((B0.length+B1.length:Nat):Int)<0))) false (fun _=>(decide_eq_false (Int.not_lt.2 (Int.natCast_nonneg _))))<|cN) (fun _=>?_)
 refine oN ?_
 refine aG (aJ (aA (jL Tryz.f177 2 [0,2,3,5,9,10,11,12,13,14,15,16,17,18,19,20,22] [] [vi 2,vi 2] [[],[]] (dV ?_))))
 refine dI ?_
 refine jJ Tryz.f177 1 [0,2,3,5,9,10,11,12,13,14,15,16,17,18,19,20,22] [vF] ?_
 refine lK [(0,(vs g 2 2)),(2,vz),(3,(vn (B0.length+B1.length))),(5,(.slice a1 B1.length c1)),(9,(vs g 2 2)),(10,(vi 2)),(11,(vi 2)),(12,vF),(13,(jp g 1)),(14,(.slice a1 B1.length c1)),(15,(vn B0.length)),(16,(.slice a1 B1.length c1)),(17,(vn B1.length)),(18,(vn (B0.length+B1.length))),(19,(vn (B0.length+B1.length))),(20,vF),(22,(vi 2))] [] ?_
 refine aB ?_
 refine oN ?_
 refine bF (aN (aN (aT (aA ?_))))
 refine sS Tryz.f177 3 [0,2,6] [] (fun ρ=>let qa:=vs (nb ρ 1) ([]:List UInt8).length (aZ ρ 1);[vn (B0.length+B1.length),qa,qa]) (fun ρ=>[(1,(nw ρ 1 (cL (zB (aZ ρ 1)) 5)))]) (cR [[]]<|cX (o_callM _ 197 (fun _=> #[vz,vn (B0.length+B1.length)]) (fun _ ζ=>(vs (ζ.headD 0) ([]:List UInt8).length (ζ.tail.headD 0))) (fun _ ζ=>(cL (zB (ζ.tail.headD 0)) 5)) (fun _ _=>(by kernel_rfl)) (fun _ _=>(by kernel_rfl)) (fun _ _=>(by kernel_rfl)) (fun _ _=>trivial) (fun _ _ w _=>grow0_any (B0.length+B1.length) (by omega) w))<|jE [[]]) (fun ρ15=>?_)
 refine aB (jJ Tryz.f177 3 [2,6,25,26,27] [vs g 2 2,vi 2,vi 0] (aI ?_))
 refine jY 3 ?_
 refine dI ?_
 refine jJ Tryz.f177 1 [2,6,25,26,27,28] [vT] (aB ?_)
 refine oY ?_
 refine aG (aA (aB (aI ?_)))
 refine sS Tryz.f177 3 [2,6,8,25,26,27,28,29,30] [] (fun _=>[pt g,.slice a0 B0.length c0,.slice a0 B0.length c0]) (fun _=>[]) (cR [[]]<|cX (qF (v:=fun ρ=>(.slice a0 B0.length c0)) (fun _ _ _ hG=>mY (off:=0) Tryz.isAgg37 hG.fn.1 (rfl)))<|jE [[]]) (fun _=>?_)
 refine rSf Tryz.f177 4 [2,6,8,25,26,27,28,29,30,31,32,33] [] (fun ρ=>let qa:=vs (nb ρ 2) (([]:List UInt8)++B0).length (aZ ρ 2);[vs (nb ρ15 1) ([]:List UInt8).length (aZ ρ15 1),.slice a0 B0.length c0,qa,qa]) (fun ρ=>[(2,(bD 0 (nb ρ 2) (cL (oc ρ 2) 5)))]) (fun ρ=>[(2,fun w=>Ap (oc ρ 2) (([]:List UInt8)++B0) (aZ ρ 2))]) (fun _=>(fun w=>Kb w g #[.slice a0 B0.length c0,.slice a1 B1.length c1]∧Bs w a0 c0 B0∧Bs w a1 c1 B1∧True)) (fun ρ=>Ap (oc ρ 2) (([]:List UInt8)++B0) (aZ ρ 2)) (fun _ _ hF hf=>⟨hF,hf 2⟩) (cR [[],[]]<|cX (qM 0 (fun _ _ _ hG hg=>app_any (ty:=37) (g:=nb ρ15 1) (C:=(zB (aZ ρ15 1))) (c:=aZ ρ15 1) (xs:=([]:List UInt8)) Tryz.underlying37 nH (Ap.mk' (Hd.nil _) (Nat.zero_le _) (Nat.zero_le _) (oD _)) (Bs.src (tx:=37) Tryz.underlying37 hG.fn.2.1) (by simp only [List.length_nil];omega) hg))<|jE [[]]) (fun ρ19 ap19_2=>?_)
 refine aJ (aA (jL Tryz.f177 2 [2,6,8,25,26,27,28,29,30,31,32,33,34] [] [vi 1,vi 1] [[],[]] (dV ?_)))
 refine dI ?_
 refine jJ Tryz.f177 1 [2,6,8,25,26,27,28,29,30,31,32,33,34] [vT] ?_
 refine lK [(2,vz),(6,(vs (nb ρ19 2) (([]:List UInt8)++B0).length (aZ ρ19 2))),(8,(.slice a0 B0.length c0)),(25,(vs g 2 2)),(26,(vi 2)),(27,(vi 1)),(28,vT),(29,(pt g)),(30,(.slice a0 B0.length c0)),(31,(vs (nb ρ15 1) ([]:List UInt8).length (aZ ρ15 1))),(32,(.slice a0 B0.length c0)),(33,(vs (nb ρ19 2) (([]:List UInt8)++B0).length (aZ ρ19 2))),(34,(vi 1))] [(nb ρ19 2,(cL (oc ρ19 2) 5))] ?_
 refine aB ?_
 refine oY ?_
 refine aG (aA (aB (aI ?_)))
 refine sS Tryz.f177 3 [2,6,8,25,26,27,28,29,30,31,32,33,34] [] (fun _=>[jp g 1,.slice a1 B1.length c1,.slice a1 B1.length c1]) (fun _=>[]) (cR [[]]<|cX (qF (v:=fun ρ=>(.slice a1 B1.length c1)) (fun _ _ _ hG=>mY (off:=1) Tryz.isAgg37 hG.fn.1 (rfl)))<|jE [[]]) (fun _=>?_)
 refine rSf Tryz.f177 4 [2,6,8,25,26,27,28,29,30,31,32,33,34] [] (fun ρ=>let qa:=vs (nb ρ 2) ((([]:List UInt8)++B0)++B1).length (aZ ρ 2);[vs (nb ρ19 2) (([]:List UInt8)++B0).length (aZ ρ19 2),.slice a1 B1.length c1,qa,qa]) (fun ρ=>[(2,(bD 0 (nb ρ 2) (cL (oc ρ 2) 5)))]) (fun ρ=>[(2,fun w=>Ap (oc ρ 2) ((([]:List UInt8)++B0)++B1) (aZ ρ 2))]) (fun _=>(fun w=>Kb w g #[.slice a0 B0.length c0,.slice a1 B1.length c1]∧Bs w a0 c0 B0∧Bs w a1 c1 B1∧True)) (fun ρ=>Ap (oc ρ 2) ((([]:List UInt8)++B0)++B1) (aZ ρ 2)) (fun _ _ hF hf=>⟨hF,hf 2⟩) (cR [[],[]]<|cX (qM 0 (fun _ _ _ hG hg=>app_any (ty:=37) (g:=nb ρ19 2) (C:=(oc ρ19 2)) (c:=aZ ρ19 2) (xs:=([]:List UInt8)++B0) Tryz.underlying37 nH (Ap.mk' ap19_2.hd ap19_2.le ap19_2.max ap19_2.size) (Bs.src (tx:=37) Tryz.underlying37 hG.fn.2.2.1) (by simp only [List.length_append,List.length_nil];omega) hg))<|jE [[]]) (fun ρ23 ap23_2=>?_)
 refine aJ (aA (jL Tryz.f177 2 [2,6,8,25,26,27,28,29,30,31,32,33,34] [] [vi 2,vi 2] [[],[]] (dV ?_)))
 refine dI ?_
 refine jJ Tryz.f177 1 [2,6,8,25,26,27,28,29,30,31,32,33,34] [vF] (aB ?_)
 refine oN ?_
 refine bF (aN (aN (aT (aA (jJ Tryz.f177 2 [2] (let qa:=vs (nb ρ23 2) ((([]:List UInt8)++B0)++B1).length (aZ ρ23 2);[qa,qa]) (aF (mD [(2,(vs (nb ρ23 2) ((([]:List UInt8)++B0)++B1).length (aZ ρ23 2)))] [(nb ρ23 2,(cL (oc ρ23 2) 5))] ?_)))))))
 exact mR (v:=(vs (nb ρ23 2) ((([]:List UInt8)++B0)++B1).length (aZ ρ23 2))) (fun _ hS=>⟨some ⟨nb ρ23 2,0,none⟩,aZ ρ23 2,congrArg Ending.returned (by rw [List.nil_append]),hS.bel,dU (by rw [List.nil_append]) (hS.fresh (.head _) ap23_2.hd ap23_2.le ap23_2.max)⟩)
theorem extend_any (a:Option Addr) (c:Nat) (B:List UInt8) (a2:Option Addr) (c2:Nat) (S:List UInt8) (hl:B.length+S.length≤140737488351232) (w0:World) (hf0:Bs w0 a c B) (hf1:Bs w0 a2 c2 S):Calls Tryz.prog 195 #[.slice a B.length c,.slice a2 S.length c2] w0 (fun ε w'=>∃ α κ,ε=.returned (.slice α (B++S).length κ)∧jG w0 w'∧Fs w0 w' α κ (B++S)):=by
 refine Calls.of_ok (n:=18) (F:=(fun w=>Bs w a c B∧Bs w a2 c2 S∧True)) Tryz.func195 rfl rfl rfl (by simp) (hf0.pers0.and (hf1.pers0.and cO)) ?_
 refine jJ Tryz.f195 1 [0,1,4] [vz] ?_
 refine sS Tryz.f195 7 [0,1,4,5] [] (fun ρ=>let qa:=vs (nb ρ 5) ([]:List UInt8).length (B.length+S.length);[.slice a B.length c,vn B.length,.slice a2 S.length c2,vn S.length,vn (B.length+S.length),qa,qa]) (fun ρ=>[(5,(nw ρ 5 (cL (zB (B.length+S.length)) 5)))]) (cR [[],[],[],[]]<|jW (fun ρ=>(((B.length:Nat):Int)+((S.length:Nat):Int))) (fun _=>(B.length+S.length)) (fun _=>(aW B.length S.length (by omega)))<|cX (uB _ (fun _=>do pure (Next.value (← Instr.makeSlice 37 (vi 0) (vn (B.length+S.length))))) (fun _ ζ=>(vs (ζ.headD 0) ([]:List UInt8).length (B.length+S.length))) (fun _ _=>(cL (zB (B.length+S.length)) 5)) (fun _ _=>(by kernel_rfl)) (fun _=>(by kernel_rfl)) (fun _ _=>trivial) (fun _ _ w _=>mM Tryz.underlying37 nH ([]:List UInt8) (rfl) (rfl) (Nat.zero_le _) hl w))<|jE [[]]) (fun ρ2=>?_)
 refine sS Tryz.f195 4 [1,4,5] [] (fun _=>let qa:=vs (nb ρ2 5) (([]:List UInt8)++B).length (B.length+S.length);[vs (nb ρ2 5) ([]:List UInt8).length (B.length+S.length),.slice a B.length c,qa,qa]) (fun _=>[(2,(bD 0 (nb ρ2 5) (cL (inpl (zB (B.length+S.length)) ([]:List UInt8).length (bs B)) 5)))]) (cR [[],[]]<|cX (o9 _ 0 (fun _=>do pure (Next.value (← Builtin.append_ #[37,37] 37 #[vs (nb ρ2 5) ([]:List UInt8).length (B.length+S.length),.slice a B.length c]))) (fun _=>nb ρ2 5) (fun _=>(cL (zB (B.length+S.length)) 5)) (fun _=>(cL (inpl (zB (B.length+S.length)) ([]:List UInt8).length (bs B)) 5)) (fun _=>(vs (nb ρ2 5) (([]:List UInt8)++B).length (B.length+S.length))) (fun _=>(by kernel_rfl)) (fun _=>(by kernel_rfl)) (fun _=>(by kernel_rfl)) (fun _=>(by kernel_rfl)) (fun _ _=>trivial) (fun _ _ _ hG hg=>kD Tryz.underlying37 nH hg (Bs.src (tx:=37) Tryz.underlying37 hG.fn.1) (oD _) (by simp only [List.length_nil];omega)))<|jE [[]]) (fun _=>?_)
 refine sS Tryz.f195 4 [4] [] (fun _=>let qa:=vs (nb ρ2 5) ((([]:List UInt8)++B)++S).length (B.length+S.length);[vs (nb ρ2 5) (([]:List UInt8)++B).length (B.length+S.length),.slice a2 S.length c2,qa,qa]) (fun _=>[(2,(bD 0 (nb ρ2 5) (cL (inpl (inpl (zB (B.length+S.length)) ([]:List UInt8).length (bs B)) (([]:List UInt8)++B).length (bs S)) 5)))]) (cR [[],[]]<|cX (o9 _ 0 (fun _=>do pure (Next.value (← Builtin.append_ #[37,37] 37 #[vs (nb ρ2 5) (([]:List UInt8)++B).length (B.length+S.length),.slice a2 S.length c2]))) (fun _=>nb ρ2 5) (fun _=>(cL (inpl (zB (B.length+S.length)) ([]:List UInt8).length (bs B)) 5)) (fun _=>(cL (inpl (inpl (zB (B.length+S.length)) ([]:List UInt8).length (bs B)) (([]:List UInt8)++B).length (bs S)) 5)) (fun _=>(vs (nb ρ2 5) ((([]:List UInt8)++B)++S).length (B.length+S.length))) (fun _=>(by kernel_rfl)) (fun _=>(by kernel_rfl)) (fun _=>(by kernel_rfl)) (fun _=>(by kernel_rfl)) (fun _ _=>trivial) (fun _ _ _ hG hg=>kD Tryz.underlying37 nH hg (Bs.src (tx:=37) Tryz.underlying37 hG.fn.2.1) ((lG _ _ _ (room_le (oD _) (by simp only [List.length_nil];omega))).trans (oD _)) (Nat.le_refl _)))<|jE [[]]) (fun _=>?_)
 refine aF (mD [(4,(vs (nb ρ2 5) ((([]:List UInt8)++B)++S).length (B.length+S.length)))] [(nb ρ2 5,(cL (inpl (inpl (zB (B.length+S.length)) ([]:List UInt8).length (bs B)) (([]:List UInt8)++B).length (bs S)) 5))] ?_)
 exact mR (v:=(vs (nb ρ2 5) ((([]:List UInt8)++B)++S).length (B.length+S.length))) (fun _ hS=>⟨some ⟨nb ρ2 5,0,none⟩,B.length+S.length,congrArg Ending.returned (rfl),hS.bel,dU (rfl) (hS.fresh (.head _) (Hd.inpl (Hd.inpl (Hd.nil _) rfl) rfl) (oK (Nat.le_refl _)) (oK hl))⟩)
theorem lowest_any (n:Nat) (m:Nat) (hn:n<18446744073709551616) (hm:m≤8) (w0:World):Calls Tryz.prog 196 #[vx n,vn m] w0 (fun ε w'=>∃ α κ,ε=.returned (.slice α (leB n m).length κ)∧jG w0 w'∧Fs w0 w' α κ (leB n m)):=by
 refine Calls.of_ok (n:=23) (F:=(fun _=>True)) Tryz.func196 rfl rfl rfl (by simp) jT ?_
 refine jJ Tryz.f196 1 [0,1,4] [vz] ?_
 refine sS Tryz.f196 3 [0,1,4,5] [] (fun ρ=>let qa:=vs (nb ρ 1) (List.replicate m (0:UInt8)).length m;[vn m,qa,qa]) (fun ρ=>[(1,(nw ρ 1 (cL (zB m) 5)))]) (cR [[]]<|cX (uB _ (fun _=>do pure (Next.value (← Instr.makeSlice 37 (vn m) (vn m)))) (fun _ ζ=>(vs (ζ.headD 0) (List.replicate m (0:UInt8)).length m)) (fun _ _=>(cL (zB m) 5)) (fun _ _=>(by kernel_rfl)) (fun _=>(by kernel_rfl)) (fun _ _=>trivial) (fun _ _ w _=>mM Tryz.underlying37 nH (List.replicate m (0:UInt8)) ((rfl).trans (by rw [List.length_replicate])) (rfl) (by rw [List.length_replicate];exact Nat.le_refl _) (by omega) w))<|jE [[]]) (fun ρ2=>?_)
 refine aB (jJ Tryz.f196 2 [0,4,5,9,10] [vn m,vi 0] (aI ?_))
 refine oL (σ:=Nat) (fun i=>[(0,(vx n)),(4,vz),(5,(vs (nb ρ2 1) (List.replicate m (0:UInt8)).length m)),(9,(vn m)),(10,(vn i))]) (fun i=>[(nb ρ2 1,(cL (oZ n m i) 5))]) (fun i=>m-i)
   (fun i=>(i≤m)) 0 (Nat.zero_le m) [] ?_
 rintro i hi
 change Ok Tryz.prog _ _ 23 [(0,(vx n)),(4,vz),(5,(vs (nb ρ2 1) (List.replicate m (0:UInt8)).length m)),(9,(vn m)),(10,(vn i))] _ [(nb ρ2 1,(cL (oZ n m i) 5))] (fun _=>True)
 refine jJ Tryz.f196 1 [0,4,5,9,10,11] [.bool (decide (((i:Nat):Int)<((m:Nat):Int)))] (aB ?_)
 refine oC (decide (((i:Nat):Int)<((m:Nat):Int))) (fun hb1=>?_) (fun hb1=>?_)
 ·
  rw [hb1]
  have:=yT hb1
  refine aG (aA (aB (aI (jJ Tryz.f196 2 [0,4,5,6,9,10] [vn i,vn i] ?_))))
  refine rS Tryz.f196 9 [0,4,5,9,10] [] (fun _=>[vs (nb ρ2 1) (List.replicate m (0:UInt8)).length m,vn i,vx n,vn i,vn (8*i),vx (n / 2^(8*i)),vy (n / 256^i%256),jp (nb ρ2 1) i,undef]) (fun _=>[(8,(bD 0 (nb ρ2 1) (cL (oZ n m (i+1)) 5)))]) (cR [[],[],[],[]]<|jW (fun ρ=>(8*((i:Nat):Int))) (fun _=>(8*i)) (fun _=>(fQ 8 i (by have:=List.length_replicate (n:=m) (a:=(0:UInt8));omega)))<|cB (a:=fun ρ=>(vx n)) (b:=fun ρ=>(vn (8*i))) (v:=fun ρ=>(vx (n / 2^(8*i)))) .shr 62 (fun _ w=>gG (k:=.u64) hn w)<|cA (fun _=>(vy (n / 256^i%256))) (fun _=>congrArg (Value.int .u8) (low_byte n i))<|cX (qS (fun _ w=>uI (g:=nb ρ2 1) (c:=m) (k:=.i64) Tryz.underlying37 nH (show ((i:Nat):Int)=((i:Nat):Int) from rfl) (show i<(List.replicate m (0:UInt8)).length from (by rw [List.length_replicate];have:=List.length_replicate (n:=m) (a:=(0:UInt8));omega)) w))<|cX (qG _ 0 5 (fun _=>nb ρ2 1) (fun _=>i) (fun _=>(oZ n m i)) (fun _=>(oZ n m (i+1))) 5 (fun _=>(vy (n / 256^i%256))) (fun _=>by kernel_rfl) Tryz.sizeOf5 (fun _=>rfl) (fun _=>(by rw [fill_size hi];have:=List.length_replicate (n:=m) (a:=(0:UInt8));omega)) (fun _=>(fill_set (by have:=List.length_replicate (n:=m) (a:=(0:UInt8));omega))))<|cN) (fun _=>?_)
  refine aJ (aA ?_)
  refine rS Tryz.f196 2 [0,4,5,9,10] [] (fun _=>[vn (i+1),vn (i+1)]) (fun _=>[]) (jW (fun ρ=>(((i:Nat):Int)+1)) (fun _=>(i+1)) (fun _=>(aW i 1 (by have:=List.length_replicate (n:=m) (a:=(0:UInt8));omega)))<|jE [[]]) (fun _=>?_)
  exact mN (i+1) (by show m-(i+1)<m-i;have:=List.length_replicate (n:=m) (a:=(0:UInt8));omega) (by show i+1≤m;have:=List.length_replicate (n:=m) (a:=(0:UInt8));omega) []
 rw [hb1]
 refine bF (aN (aN (aT (aA (jJ Tryz.f196 2 [4] (let qa:=vs (nb ρ2 1) (List.replicate m (0:UInt8)).length m;[qa,qa]) (aF (mD [(4,(vs (nb ρ2 1) (List.replicate m (0:UInt8)).length m))] [(nb ρ2 1,(cL (oZ n m i) 5))] ?_)))))))
 exact mR (v:=(vs (nb ρ2 1) (List.replicate m (0:UInt8)).length m)) (fun _ hS=>⟨some ⟨nb ρ2 1,0,none⟩,m,congrArg Ending.returned (by rw [List.length_replicate,eQ]),hS.bel,dU (fill_end (by have:=yF hb1;have:=List.length_replicate (n:=m) (a:=(0:UInt8));omega)) (hS.fresh (.head _) (Hd.all _) (Nat.le_of_eq (zX hi)) (by rw [zX hi];omega))⟩)
theorem yX (a:Option Addr) (c:Nat) (B:List UInt8) (n:Nat) (hn:n<4294967296) (hl:B.length+8≤140737488351232) (w0:World) (hf0:Bs w0 a c B):Calls Tryz.prog 176 #[.slice a B.length c,vu n] w0 (fun ε w'=>∃ α κ,ε=.returned (.slice α (B++leB n 4).length κ)∧jG w0 w'∧Fs w0 w' α κ (B++leB n 4)):=by
 refine Calls.of_ok (n:=10) (F:=(fun w=>Bs w a c B∧True)) Tryz.func176 rfl rfl rfl (by simp) (hf0.pers0.and cO) ?_
 refine jJ Tryz.f176 1 [0,1,4] [vz] ?_
 refine iZ Tryz.f176 6 [4] [] (fun ρ=>let qa:Value:=.slice (oa ρ 4) (B++(leB n 4)).length (nb ρ 4);[.slice a B.length c,vu n,vx n,.slice (oa ρ 3) (leB n 4).length (nb ρ 3),qa,qa]) (fun _=>[]) (fun ρ=>[(3,fun w=>Fs w0 w (oa ρ 3) (nb ρ 3) (leB n 4)),(4,fun w=>Fs w0 w (oa ρ 4) (nb ρ 4) (B++(leB n 4)))]) (fun ρ=>(fun w=>Bs w a c B∧Fs w0 w (oa ρ 3) (nb ρ 3) (leB n 4)∧Fs w0 w (oa ρ 4) (nb ρ 4) (B++(leB n 4))∧True)) (fun _=>True) (fun _ _ hF hf=>⟨⟨hF.1,hf 3,hf 4,trivial⟩,trivial⟩) (cR [[],[]]<|cA (v:=fun ρ=>(.int .u64 (IntKind.u64.wrap ((n:Nat):Int)))) (fun _=>(vx n)) (fun _=>congrArg (Value.int .u64) (u64N (by omega)))<|cX (qB (fun _ _ w _=>lowest_any n 4 (by omega) (by omega) w))<|cX (qB (fun ρ _ w hG=>extend_any a c B (oa ρ 3) (nb ρ 3) (leB n 4) (by simp only [eQ];omega) w hG.fn.1 (show Fs w0 w (oa ρ 3) (nb ρ 3) (leB n 4) from (hG.facts 3 rfl).now).1))<|jE [[]]) (fun ρ2 _=>?_)
 refine aF (mD [(4,(.slice (oa ρ2 4) (B++(leB n 4)).length (nb ρ2 4)))] [] ?_)
 exact mR (v:=(.slice (oa ρ2 4) (B++(leB n 4)).length (nb ρ2 4))) (fun _ hS=>⟨oa ρ2 4,nb ρ2 4,congrArg Ending.returned (rfl),hS.bel,dU (rfl) hS.facts.now.2.2.1⟩)
theorem twk_any (k:Ky) (i:Nat) (_hk:k.Ok) (hi:i<4294967296) (w0:World) (hf0:kJ w0) (hf1:fD w0):Calls Tryz.prog 156 #[.agg (kY k),vu i] w0 (jR (.agg (hB (bT k i))) w0):=by
 refine Calls.of_ok (n:=24) (F:=(fun w=>kJ w∧fD w∧True)) Tryz.func156 rfl rfl rfl (by simp) (hf0.pers0.and (hf1.pers0.and cO)) ?_
 refine sS Tryz.f156 2 [1,2,4] [] (fun ρ=>[pt (nb ρ 0),pt (nb ρ 1)]) (fun ρ=>[(0,(nw ρ 0 (cL (kY k) 66))),(1,(nw ρ 1 (cL (hB 0) 57)))]) (jE [[],[]]) (fun ρ1=>?_)
 refine sS Tryz.f156 6 [1,2,4,5,6] [] (fun ρ=>[jp (nb ρ1 0) 4,U k.p,.agg (hB k.p),pt (nb ρ 3),.string ⟨#[108,105,103,104,116,99,108,105,101,110,116,47,115,111,102,116]⟩,undef]) (fun ρ=>[(3,(nw ρ 3 (cL (hB 0) 57))),(5,(bD 26 (nb ρ 3) (cL (hB k.p) 57)))]) (cR [[],[0]]<|cC (fun _ w=>pW k.p w)<|jE [[],[],[26]]) (fun ρ2=>?_)
 refine aB (jJ Tryz.f156 2 [1,2,4,5,6,11] [vu i,.bool (decide (2147483648≤((i:Nat):Int)))] ?_)
 refine oC (decide (2147483648≤((i:Nat):Int))) (fun hb1=>?_) (fun hb1=>?_)
 ·
  rw [hb1]
  refine rS Tryz.f156 5 [1,2,4,5,6] [] (fun _=>[pt (nb ρ1 0),U k.s,.agg (hB k.s),.string ⟨#[108,105,103,104,116,99,108,105,101,110,116,47,104,97,114,100]⟩,undef]) (fun _=>[(4,(bD 2 (nb ρ2 3) (cL (hB k.s) 57)))]) (cR [[],[0]]<|cC (fun _ w=>pW k.s w)<|jE [[],[2]]) (fun _=>?_)
  refine aA ?_
  refine sDf Tryz.f156 [0,0,2,0,14,30,0,126,255,511] 10 [4] [0,1,0,0] (fun ρ=>[.string ⟨#[108,105,103,104,116,99,108,105,101,110,116,47,104,97,114,100]⟩,jp (nb ρ1 0) 8,.slice (some ⟨nb ρ1 0,8,none⟩) (hL k.c).length 32,vs (nb ρ2 3) (hL k.s).length 32,vs (nb ρ 4) 2 2,.slice (oa ρ 5) ((hL k.c)++(hL k.s)).length (nb ρ 5),vu i,.slice (oa ρ 7) (((hL k.c)++(hL k.s))++leB i 4).length (nb ρ 7),.agg (hB (lV tgH (((hL k.c)++(hL k.s))++leB i 4))),undef]) (fun ρ=>[(4,(nw ρ 4 (cL #[.slice (some ⟨nb ρ1 0,8,none⟩) (hL k.c).length 32,vs (nb ρ2 3) (hL k.s).length 32] 37))),(9,(bD 1 (nb ρ1 1) (cL (hB (lV tgH (((hL k.c)++(hL k.s))++leB i 4))) 57)))]) (fun ρ=>[(5,fun w=>Fs w0 w (oa ρ 5) (nb ρ 5) ((hL k.c)++(hL k.s))),(7,fun w=>Fs w0 w (oa ρ 7) (nb ρ 7) (((hL k.c)++(hL k.s))++leB i 4))]) (fun ρ=>(fun w=>kJ w∧fD w∧Fs w0 w (oa ρ 5) (nb ρ 5) ((hL k.c)++(hL k.s))∧Fs w0 w (oa ρ 7) (nb ρ 7) (((hL k.c)++(hL k.s))++leB i 4)∧True)) (fun _=>True) (fun _ _ hF hf=>⟨⟨hF.1,hF.2.1,hf 5,hf 7,trivial⟩,trivial⟩) (cR [[],[],[],[],[]]<|cX (qB (fun ρ _ w hG=>concat2_any (nb ρ 4) (some ⟨nb ρ1 0,8,none⟩) 32 (hL k.c) (some ⟨nb ρ2 3,0,none⟩) 32 (hL k.s) (by simp only [aO];omega) (by rw [aO];decide) w (Kb.of_block (hG.kn (g:=nb ρ 4) (o:=(cL #[.slice (some ⟨nb ρ1 0,8,none⟩) (hL k.c).length 32,vs (nb ρ2 3) (hL k.s).length 32] 37)) 35)) (Bs.of_key (hG.kn (g:=nb ρ1 0) (o:=(cL (kY k) 66)) 0)) (Bs.of_hd (c:=32) (hG.kn (g:=nb ρ2 3) (o:=(cL (hB k.s) 57)) 2) (nP _) (Nat.le_refl _) (Nat.le_of_ble_eq_true rfl))))<|cR [[]]<|cX (qB (fun ρ _ w hG=>yX (oa ρ 5) (nb ρ 5) ((hL k.c)++(hL k.s)) i (by have:=yT hb1;omega) (by simp only [List.length_append,aO];have:=yT hb1;omega) w (show Fs w0 w (oa ρ 5) (nb ρ 5) ((hL k.c)++(hL k.s)) from (hG.facts 5 rfl).now).1))<|cX (qC (fun ρ _ w hG=>yM tgH (oa ρ 7) (nb ρ 7) (((hL k.c)++(hL k.s))++leB i 4) (by decide) (by simp only [List.length_append,aO,eQ];omega) w (show Fs w0 w (oa ρ 7) (nb ρ 7) (((hL k.c)++(hL k.s))++leB i 4) from (hG.facts 7 rfl).now).1 hG.fn.1 hG.fn.2.1))<|jE [[1]]) (fun _ _=>?_)
  refine aF ?_
  exact mR (v:=(.agg (hB (lV tgH (((hL k.c)++(hL k.s))++leB i 4))))) (fun _ hS=>⟨congrArg Ending.returned (congrArg (fun z=>Value.agg (hB z)) (twk_1 hb1)),hS.bel⟩)
 rw [hb1]
 refine aG (aA ?_)
 refine sDf Tryz.f156 [0,0,2,0,14,30,0,126,255,511] 10 [4] [0,1,0,0] (fun ρ=>[.string ⟨#[108,105,103,104,116,99,108,105,101,110,116,47,115,111,102,116]⟩,jp (nb ρ1 0) 8,.slice (some ⟨nb ρ1 0,8,none⟩) (hL k.c).length 32,vs (nb ρ2 3) (hL k.p).length 32,vs (nb ρ 4) 2 2,.slice (oa ρ 5) ((hL k.c)++(hL k.p)).length (nb ρ 5),vu i,.slice (oa ρ 7) (((hL k.c)++(hL k.p))++leB i 4).length (nb ρ 7),.agg (hB (lV tgS (((hL k.c)++(hL k.p))++leB i 4))),undef]) (fun ρ=>[(4,(nw ρ 4 (cL #[.slice (some ⟨nb ρ1 0,8,none⟩) (hL k.c).length 32,vs (nb ρ2 3) (hL k.p).length 32] 37))),(9,(bD 1 (nb ρ1 1) (cL (hB (lV tgS (((hL k.c)++(hL k.p))++leB i 4))) 57)))]) (fun ρ=>[(5,fun w=>Fs w0 w (oa ρ 5) (nb ρ 5) ((hL k.c)++(hL k.p))),(7,fun w=>Fs w0 w (oa ρ 7) (nb ρ 7) (((hL k.c)++(hL k.p))++leB i 4))]) (fun ρ=>(fun w=>kJ w∧fD w∧Fs w0 w (oa ρ 5) (nb ρ 5) ((hL k.c)++(hL k.p))∧Fs w0 w (oa ρ 7) (nb ρ 7) (((hL k.c)++(hL k.p))++leB i 4)∧True)) (fun _=>True) (fun _ _ hF hf=>⟨⟨hF.1,hF.2.1,hf 5,hf 7,trivial⟩,trivial⟩) (cR [[],[],[],[],[]]<|cX (qB (fun ρ _ w hG=>concat2_any (nb ρ 4) (some ⟨nb ρ1 0,8,none⟩) 32 (hL k.c) (some ⟨nb ρ2 3,0,none⟩) 32 (hL k.p) (by simp only [aO];omega) (by rw [aO];decide) w (Kb.of_block (hG.kn (g:=nb ρ 4) (o:=(cL #[.slice (some ⟨nb ρ1 0,8,none⟩) (hL k.c).length 32,vs (nb ρ2 3) (hL k.p).length 32] 37)) 35)) (Bs.of_key (hG.kn (g:=nb ρ1 0) (o:=(cL (kY k) 66)) 0)) (Bs.of_hd (c:=32) (hG.kn (g:=nb ρ2 3) (o:=(cL (hB k.p) 57)) 2) (nP _) (Nat.le_refl _) (Nat.le_of_ble_eq_true rfl))))<|cR [[]]<|cX (qB (fun ρ _ w hG=>yX (oa ρ 5) (nb ρ 5) ((hL k.c)++(hL k.p)) i (by have:=yF hb1;omega) (by simp only [List.length_append,aO];have:=yF hb1;omega) w (show Fs w0 w (oa ρ 5) (nb ρ 5) ((hL k.c)++(hL k.p)) from (hG.facts 5 rfl).now).1))<|cX (qC (fun ρ _ w hG=>yM tgS (oa ρ 7) (nb ρ 7) (((hL k.c)++(hL k.p))++leB i 4) (by decide) (by simp only [List.length_append,aO,eQ];omega) w (show Fs w0 w (oa ρ 7) (nb ρ 7) (((hL k.c)++(hL k.p))++leB i 4) from (hG.facts 7 rfl).now).1 hG.fn.1 hG.fn.2.1))<|jE [[1]]) (fun _ _=>?_)
 refine aF ?_
 exact mR (v:=(.agg (hB (lV tgS (((hL k.c)++(hL k.p))++leB i 4))))) (fun _ hS=>⟨congrArg Ending.returned (congrArg (fun z=>Value.agg (hB z)) (twk_0 hb1)),hS.bel⟩)
theorem child_any (k:Ky) (i:Nat) (hk:k.Ok) (hi:i<4294967296) (w0:World) (hf0:kJ w0) (hf1:fD w0):Calls Tryz.prog 135 #[.agg (kY k),vu i] w0 (jR (.tuple #[.agg (kY (chK k i)),vi (chE k i)]) w0):=by
 refine Calls.of_ok (n:=77) (F:=(fun w=>kJ w∧fD w∧True)) Tryz.func135 rfl rfl rfl (by simp) (hf0.pers0.and (hf1.pers0.and cO)) ?_
 refine sS Tryz.f135 3 [1,2,4,5] [] (fun ρ=>[pt (nb ρ 0),pt (nb ρ 1),vi 0]) (fun ρ=>[(0,(nw ρ 0 (cL (kY k) 66))),(1,(nw ρ 1 (cL (kC 0 0 0 0 0 0) 66)))]) (jE [[],[],[]]) (fun ρ1=>?_)
 refine sS Tryz.f135 5 [1,2,4,5,6] [] (fun _=>let qa:Value:=.bool (!decide (k.s=0));[pt (nb ρ1 0),U k.s,U 0,qa,qa]) (fun _=>[]) (cR [[],[0],[]]<|cB (a:=fun ρ=>(U k.s)) (b:=fun ρ=>(U 0)) (v:=fun ρ=>(.bool (!decide (k.s=0)))) .neq 64 (fun _ _=>neqU k.s 0 hk.s (by decide +kernel) _)<|jE [[]]) (fun _=>?_)
 refine aB (aI ?_)
 refine sS Tryz.f135 4 [1,2,4,5,6,14] [] (fun _=>[.agg (kY k),.bool (fC k),.bool (!(fC k)),.bool (!(fC k))]) (fun _=>[]) (cR [[0]]<|cC (fun _ w=>yN k hk w)<|jE [[],[]]) (fun _=>?_)
 refine oC (!(fC k)) (fun hb1=>?_) (fun hb1=>?_)
 ·
  rw [hb1]
  refine sS Tryz.f135 3 [1,2,4,5,6] [] (fun _=>[.agg (kC 0 0 0 0 0 0),undef,vi 6]) (fun _=>[(1,(bD 1 (nb ρ1 1) (cL (kC 0 0 0 0 0 0) 66)))]) (jE [[],[1],[]]) (fun _=>?_)
  refine aF (aP (aC ?_))
  exact mR (v:=(.tuple #[.agg (kC 0 0 0 0 0 0),vi 6])) (ps:=[1,1,1,1,1,1,1,1,1,1,1,1,1,1,1,1,1,1,1,1,1,1,1,1,1,1,1,1,1,1,1,1,1,1,1,1,1,1,1,1,1,1,1]) (fun _ hS=>⟨by rw [(ch_6 (dF hb1)).1,(ch_6 (dF hb1)).2];rfl,hS.bel⟩)
 rw [hb1]
 refine jM Tryz.f135 4 [1,2,4,5,6,19] [] [jp (nb ρ1 0) 40,vi k.d,.bool (k.d==8),.bool (k.d==8)] [[],[0],[],[]] ?_
 refine oC (k.d==8) (fun hb2=>?_) (fun hb2=>?_)
 ·
  rw [hb2]
  refine sS Tryz.f135 3 [1,2,4,5,6] [] (fun _=>[.agg (kC 0 0 0 0 0 0),undef,vi 4]) (fun _=>[(1,(bD 1 (nb ρ1 1) (cL (kC 0 0 0 0 0 0) 66)))]) (jE [[],[1],[]]) (fun _=>?_)
  refine aF (aP (aC ?_))
  exact mR (v:=(.tuple #[.agg (kC 0 0 0 0 0 0),vi 4])) (ps:=[1,1,1,1,1,1,1,1,1,1,1,1,1,1,1,1,1,1,1,1,1,1,1,1,1,1,1,1,1,1,1,1,1,1,1,1,1,1,1,1,1,1,1]) (fun _ hS=>⟨by rw [(ch_4 (i:=i) (aV hb1) (xQ hb2)).1,(ch_4 (i:=i) (aV hb1) (xQ hb2)).2];rfl,hS.bel⟩)
 rw [hb2]
 rcases Bool.eq_false_or_eq_true (decide (2147483648≤((i:Nat):Int))) with hb3 | hb3
 ·
  refine sS Tryz.f135 7 [1,2,4,5,6,24] [] (fun _=>let qa:Value:=.bool (!(!decide (k.s=0)));[vu i,vT,vT,.bool (!decide (k.s=0)),qa,qa,qa]) (fun _=>[]) (cR [[]]<|cA (fun _=>vT) (fun _=>congrArg Value.bool hb3)<|jE [[],[],[],[],[]]) (fun _=>?_)
  refine oC (!(!decide (k.s=0))) (fun hb4=>?_) (fun hb4=>?_)
  ·
   rw [hb4]
   refine sS Tryz.f135 3 [1,2,4,5,6] [] (fun _=>[.agg (kC 0 0 0 0 0 0),undef,vi 250]) (fun _=>[(1,(bD 1 (nb ρ1 1) (cL (kC 0 0 0 0 0 0) 66)))]) (jE [[],[1],[]]) (fun _=>?_)
   refine aF (aP (aC ?_))
   exact mR (v:=(.tuple #[.agg (kC 0 0 0 0 0 0),vi 250])) (ps:=[1,1,1,1,1,1,1,1,1,1,1,1,1,1,1,1,1,1,1,1,1,1,1,1,1,1,1,1,1,1,1,1,1,1,1,1,1,1,1,1,1,1,1]) (fun _ hS=>⟨by rw [(ch_250 (aV hb1) (jP hb2) (hd_t hb3) (yT (aV (dF hb4)))).1,(ch_250 (aV hb1) (jP hb2) (hd_t hb3) (yT (aV (dF hb4)))).2];rfl,hS.bel⟩)
  rw [hb4]
  refine aG (aJ (aA ?_))
  refine sS Tryz.f135 5 [1,2,4,5,6,7] [] (fun ρ=>[.agg (kY k),vu i,.agg (hB (bT k i)),pt (nb ρ 3),undef]) (fun ρ=>[(3,(nw ρ 3 (cL (hB 0) 57))),(4,(bD 26 (nb ρ 3) (cL (hB (bT k i)) 57)))]) (cR [[0],[]]<|cX (qC (fun _ _ w hG=>twk_any k i hk hi w hG.fn.1 hG.fn.2.1))<|jE [[],[26]]) (fun ρ9=>?_)
  refine sD Tryz.f135 [0,1,0,7,0,16,48,0,0,271,1023,0,4095] 13 [2,4,5,6,7,8] [] (fun ρ=>[jp (nb ρ1 0) 8,.slice (some ⟨nb ρ1 0,8,none⟩) (hL k.c).length 32,vs (nb ρ9 3) (hL (bT k i)).length 32,.agg (hB (hmN k.c (hL (bT k i)))),jp (nb ρ1 0) 40,vi k.d,vi (k.d+1),vu i,.agg (kY k),vu (o8 k.p),.agg (kC 0 0 (hmN k.c (hL (bT k i))) (k.d+1) ((i:Nat):Int) ((o8 k.p:Nat):Int)),pt (nb ρ 11),undef]) (fun ρ=>[(11,(nw ρ 11 (cL (kC 0 0 0 0 0 0) 66))),(12,(bD 91 (nb ρ 11) (cL (kC 0 0 (hmN k.c (hL (bT k i))) (k.d+1) ((i:Nat):Int) ((o8 k.p:Nat):Int)) 66)))]) (cR [[],[],[]]<|cX (qC (fun _ _ w hG=>hmac_any (some ⟨nb ρ1 0,8,none⟩) 32 k.c (some ⟨nb ρ9 3,0,none⟩) 32 (hL (bT k i)) (by rw [aO];decide) w (Bs.of_key (hG.kn (g:=nb ρ1 0) (o:=(cL (kY k) 66)) 0)) (Bs.of_hd (c:=32) (hG.kn (g:=nb ρ9 3) (o:=(cL (hB (bT k i)) 57)) 2) (nP _) (Nat.le_refl _) (Nat.le_of_ble_eq_true rfl)) hG.fn.1 hG.fn.2.1))<|cR [[],[0]]<|jU (fun ρ=>(k.d+1)) (fun _=>(k.d+1)) (fun _=>(gZ (by have:=oI (aV hb1);omega)))<|cR [[],[0]]<|cX (qC (fun _ _ w hG=>kprint_any k hk w hG.fn.1 hG.fn.2.1))<|jE [[],[],[91]]) (fun ρ10=>?_)
  refine lK [(2,(pt (nb ρ1 0))),(4,(pt (nb ρ1 1))),(5,(vi 0)),(6,(.bool (!decide (k.s=0)))),(7,(pt (nb ρ9 3))),(8,(pt (nb ρ10 11)))] [(nb ρ1 0,(cL (kY k) 66)),(nb ρ1 1,(cL (kC 0 0 0 0 0 0) 66)),(nb ρ9 3,(cL (hB (bT k i)) 57)),(nb ρ10 11,(cL (kC 0 0 (hmN k.c (hL (bT k i))) (k.d+1) ((i:Nat):Int) ((o8 k.p:Nat):Int)) 66))] ?_
  refine jJ Tryz.f135 1 [2,4,5,6,7,8,9] [vi 0] (aB (jJ Tryz.f135 1 [2,4,5,7,8,9,46] [.bool (!decide (k.s=0))] ?_))
  refine oC (!decide (k.s=0)) (fun hb5=>?_) (fun hb5=>?_)
  ·
   rw [hb5]
   refine sS Tryz.f135 10 [4,5,8,9] [0,1,0,1] (fun _=>let qa:=vi (nY k.s (bT k i));[pt (nb ρ1 0),U k.s,.agg (hB (bT k i)),.tuple #[U (fO k.s (bT k i)),qa],.tuple #[U (fO k.s (bT k i)),qa],U (fO k.s (bT k i)),qa,pt (nb ρ10 11),undef,qa]) (fun _=>[(8,(bD 3 (nb ρ10 11) (cL (kC (fO k.s (bT k i)) 0 (hmN k.c (hL (bT k i))) (k.d+1) ((i:Nat):Int) ((o8 k.p:Nat):Int)) 66)))]) (cR [[],[0],[2]]<|cC (f:=159) (args:=fun ρ=> #[U k.s,.agg (hB (bT k i))]) (v:=fun ρ=>(.tuple #[U (fO k.s (bT k i)),vi (nY k.s (bT k i))])) (fun _ w=>(fun w=>uQ k.s (bT k i) hk.s (twk_lt _ _) w) w)<|jE [[],[],[],[],[3],[]]) (fun _=>?_)
   refine jJ Tryz.f135 2 [4,5,8,9,56] [vi (nY k.s (bT k i)),.bool ((nY k.s (bT k i))==0)] ?_
   refine oC ((nY k.s (bT k i))==0) (fun hb6=>?_) (fun hb6=>?_)
   ·
    rw [hb6]
    refine rS Tryz.f135 9 [4,5,8,9] [] (fun _=>let qa:=vi (iW (fO k.s (bT k i)));[pt (nb ρ10 11),U (fO k.s (bT k i)),.tuple #[U (dK (fO k.s (bT k i))),qa],.tuple #[U (dK (fO k.s (bT k i))),qa],U (dK (fO k.s (bT k i))),qa,jp (nb ρ10 11) 4,undef,qa]) (fun _=>[(7,(bD 1 (nb ρ10 11) (cL (kC (fO k.s (bT k i)) (dK (fO k.s (bT k i))) (hmN k.c (hL (bT k i))) (k.d+1) ((i:Nat):Int) ((o8 k.p:Nat):Int)) 66)))]) (cR [[],[1]]<|cC (f:=103) (args:=fun ρ=> #[U (fO k.s (bT k i))]) (v:=fun ρ=>(.tuple #[U (dK (fO k.s (bT k i))),vi (iW (fO k.s (bT k i)))])) (fun _ w=>(fun w=>yD (fO k.s (bT k i)) (tsV_lt _ _) w) w)<|jE [[],[],[],[],[1],[]]) (fun _=>?_)
    refine aA (aB ?_)
    refine sS Tryz.f135 2 [4,5,8,9,73] [] (fun _=>[vi (iW (fO k.s (bT k i))),vF]) (fun _=>[]) (cR [[]]<|cA (fun _=>vF) (fun _=>congrArg Value.bool (pub_ts (bnI hb6)))<|cN) (fun _=>?_)
    refine oN ?_
    refine aG (aA ?_)
    refine sS Tryz.f135 3 [4,5] [1,0] (fun _=>[.agg (kC (fO k.s (bT k i)) (dK (fO k.s (bT k i))) (hmN k.c (hL (bT k i))) (k.d+1) ((i:Nat):Int) ((o8 k.p:Nat):Int)),undef,vi 0]) (fun _=>[(1,(bD 0 (nb ρ1 1) (cL (kC (fO k.s (bT k i)) (dK (fO k.s (bT k i))) (hmN k.c (hL (bT k i))) (k.d+1) ((i:Nat):Int) ((o8 k.p:Nat):Int)) 66)))]) (jE [[1],[0],[]]) (fun _=>?_)
    refine aF ?_
    exact mR (v:=(.tuple #[.agg (kC (fO k.s (bT k i)) (dK (fO k.s (bT k i))) (hmN k.c (hL (bT k i))) (k.d+1) ((i:Nat):Int) ((o8 k.p:Nat):Int)),vi 0])) (fun _ hS=>⟨by rw [(ch_s0 (aV hb1) (jP hb2) (Or.inr (yF (dF (aV hb4)))) (yF (dF (aV hb4))) (xQ hb6)).1,(ch_s0 (aV hb1) (jP hb2) (Or.inr (yF (dF (aV hb4)))) (yF (dF (aV hb4))) (xQ hb6)).2]<;>rfl,hS.bel⟩)
   rw [hb6]
   refine aG (aA (aB ?_))
   refine sS Tryz.f135 2 [4,5,8,9,73] [] (fun _=>[vi (nY k.s (bT k i)),vT]) (fun _=>[]) (cR [[]]<|cA (fun _=>vT) (fun _=>congrArg Value.bool (bn_n hb6))<|cN) (fun _=>?_)
   refine oY ?_
   refine sS Tryz.f135 4 [4,5,8] [] (fun _=>[.agg (kC 0 0 0 0 0 0),vi (nY k.s (bT k i)),undef,vi (nY k.s (bT k i))]) (fun _=>[(2,(bD 0 (nb ρ1 1) (cL (kC 0 0 0 0 0 0) 66)))]) (jE [[],[],[0],[]]) (fun _=>?_)
   refine aF (aC ?_)
   exact mR (v:=(.tuple #[.agg (kC 0 0 0 0 0 0),vi (nY k.s (bT k i))])) (fun _ hS=>⟨by rw [(ch_s1 (aV hb1) (jP hb2) (Or.inr (yF (dF (aV hb4)))) (yF (dF (aV hb4))) (jP hb6)).1,(ch_s1 (aV hb1) (jP hb2) (Or.inr (yF (dF (aV hb4)))) (yF (dF (aV hb4))) (jP hb6)).2]<;>rfl,hS.bel⟩)
  exact absurd ((show (!decide (k.s=0))=true from (aV hb4)).symm.trans hb5) (by decide)
 refine sS Tryz.f135 7 [1,2,4,5,6,24] [] (fun _=>[vu i,vF,vF,undef,undef,vF,vF]) (fun _=>[]) (cR [[]]<|cA (fun _=>vF) (fun _=>congrArg Value.bool hb3)<|jE [[],[],[],[],[]]) (fun _=>?_)
 refine oN ?_
 refine aG (aJ (aA ?_))
 refine sS Tryz.f135 5 [1,2,4,5,6,7] [] (fun ρ=>[.agg (kY k),vu i,.agg (hB (bT k i)),pt (nb ρ 3),undef]) (fun ρ=>[(3,(nw ρ 3 (cL (hB 0) 57))),(4,(bD 26 (nb ρ 3) (cL (hB (bT k i)) 57)))]) (cR [[0],[]]<|cX (qC (fun _ _ w hG=>twk_any k i hk hi w hG.fn.1 hG.fn.2.1))<|jE [[],[26]]) (fun ρ21=>?_)
 refine sD Tryz.f135 [0,1,0,7,0,16,48,0,0,271,1023,0,4095] 13 [2,4,5,6,7,8] [] (fun ρ=>[jp (nb ρ1 0) 8,.slice (some ⟨nb ρ1 0,8,none⟩) (hL k.c).length 32,vs (nb ρ21 3) (hL (bT k i)).length 32,.agg (hB (hmN k.c (hL (bT k i)))),jp (nb ρ1 0) 40,vi k.d,vi (k.d+1),vu i,.agg (kY k),vu (o8 k.p),.agg (kC 0 0 (hmN k.c (hL (bT k i))) (k.d+1) ((i:Nat):Int) ((o8 k.p:Nat):Int)),pt (nb ρ 11),undef]) (fun ρ=>[(11,(nw ρ 11 (cL (kC 0 0 0 0 0 0) 66))),(12,(bD 91 (nb ρ 11) (cL (kC 0 0 (hmN k.c (hL (bT k i))) (k.d+1) ((i:Nat):Int) ((o8 k.p:Nat):Int)) 66)))]) (cR [[],[],[]]<|cX (qC (fun _ _ w hG=>hmac_any (some ⟨nb ρ1 0,8,none⟩) 32 k.c (some ⟨nb ρ21 3,0,none⟩) 32 (hL (bT k i)) (by rw [aO];decide) w (Bs.of_key (hG.kn (g:=nb ρ1 0) (o:=(cL (kY k) 66)) 0)) (Bs.of_hd (c:=32) (hG.kn (g:=nb ρ21 3) (o:=(cL (hB (bT k i)) 57)) 2) (nP _) (Nat.le_refl _) (Nat.le_of_ble_eq_true rfl)) hG.fn.1 hG.fn.2.1))<|cR [[],[0]]<|jU (fun ρ=>(k.d+1)) (fun _=>(k.d+1)) (fun _=>(gZ (by have:=oI (aV hb1);omega)))<|cR [[],[0]]<|cX (qC (fun _ _ w hG=>kprint_any k hk w hG.fn.1 hG.fn.2.1))<|jE [[],[],[91]]) (fun ρ22=>?_)
 refine lK [(2,(pt (nb ρ1 0))),(4,(pt (nb ρ1 1))),(5,(vi 0)),(6,(.bool (!decide (k.s=0)))),(7,(pt (nb ρ21 3))),(8,(pt (nb ρ22 11)))] [(nb ρ1 0,(cL (kY k) 66)),(nb ρ1 1,(cL (kC 0 0 0 0 0 0) 66)),(nb ρ21 3,(cL (hB (bT k i)) 57)),(nb ρ22 11,(cL (kC 0 0 (hmN k.c (hL (bT k i))) (k.d+1) ((i:Nat):Int) ((o8 k.p:Nat):Int)) 66))] ?_
 refine jJ Tryz.f135 1 [2,4,5,6,7,8,9] [vi 0] (aB (jJ Tryz.f135 1 [2,4,5,7,8,9,46] [.bool (!decide (k.s=0))] ?_))
 refine oC (!decide (k.s=0)) (fun hb7=>?_) (fun hb7=>?_)
 ·
  rw [hb7]
  refine sS Tryz.f135 10 [4,5,8,9] [0,1,0,1] (fun _=>let qa:=vi (nY k.s (bT k i));[pt (nb ρ1 0),U k.s,.agg (hB (bT k i)),.tuple #[U (fO k.s (bT k i)),qa],.tuple #[U (fO k.s (bT k i)),qa],U (fO k.s (bT k i)),qa,pt (nb ρ22 11),undef,qa]) (fun _=>[(8,(bD 3 (nb ρ22 11) (cL (kC (fO k.s (bT k i)) 0 (hmN k.c (hL (bT k i))) (k.d+1) ((i:Nat):Int) ((o8 k.p:Nat):Int)) 66)))]) (cR [[],[0],[2]]<|cC (f:=159) (args:=fun ρ=> #[U k.s,.agg (hB (bT k i))]) (v:=fun ρ=>(.tuple #[U (fO k.s (bT k i)),vi (nY k.s (bT k i))])) (fun _ w=>(fun w=>uQ k.s (bT k i) hk.s (twk_lt _ _) w) w)<|jE [[],[],[],[],[3],[]]) (fun _=>?_)
  refine jJ Tryz.f135 2 [4,5,8,9,56] [vi (nY k.s (bT k i)),.bool ((nY k.s (bT k i))==0)] ?_
  refine oC ((nY k.s (bT k i))==0) (fun hb8=>?_) (fun hb8=>?_)
  ·
   rw [hb8]
   refine rS Tryz.f135 9 [4,5,8,9] [] (fun _=>let qa:=vi (iW (fO k.s (bT k i)));[pt (nb ρ22 11),U (fO k.s (bT k i)),.tuple #[U (dK (fO k.s (bT k i))),qa],.tuple #[U (dK (fO k.s (bT k i))),qa],U (dK (fO k.s (bT k i))),qa,jp (nb ρ22 11) 4,undef,qa]) (fun _=>[(7,(bD 1 (nb ρ22 11) (cL (kC (fO k.s (bT k i)) (dK (fO k.s (bT k i))) (hmN k.c (hL (bT k i))) (k.d+1) ((i:Nat):Int) ((o8 k.p:Nat):Int)) 66)))]) (cR [[],[1]]<|cC (f:=103) (args:=fun ρ=> #[U (fO k.s (bT k i))]) (v:=fun ρ=>(.tuple #[U (dK (fO k.s (bT k i))),vi (iW (fO k.s (bT k i)))])) (fun _ w=>(fun w=>yD (fO k.s (bT k i)) (tsV_lt _ _) w) w)<|jE [[],[],[],[],[1],[]]) (fun _=>?_)
   refine aA (aB ?_)
   refine sS Tryz.f135 2 [4,5,8,9,73] [] (fun _=>[vi (iW (fO k.s (bT k i))),vF]) (fun _=>[]) (cR [[]]<|cA (fun _=>vF) (fun _=>congrArg Value.bool (pub_ts (bnI hb8)))<|cN) (fun _=>?_)
   refine oN ?_
   refine aG (aA ?_)
   refine sS Tryz.f135 3 [4,5] [1,0] (fun _=>[.agg (kC (fO k.s (bT k i)) (dK (fO k.s (bT k i))) (hmN k.c (hL (bT k i))) (k.d+1) ((i:Nat):Int) ((o8 k.p:Nat):Int)),undef,vi 0]) (fun _=>[(1,(bD 0 (nb ρ1 1) (cL (kC (fO k.s (bT k i)) (dK (fO k.s (bT k i))) (hmN k.c (hL (bT k i))) (k.d+1) ((i:Nat):Int) ((o8 k.p:Nat):Int)) 66)))]) (jE [[1],[0],[]]) (fun _=>?_)
   refine aF ?_
   exact mR (v:=(.tuple #[.agg (kC (fO k.s (bT k i)) (dK (fO k.s (bT k i))) (hmN k.c (hL (bT k i))) (k.d+1) ((i:Nat):Int) ((o8 k.p:Nat):Int)),vi 0])) (fun _ hS=>⟨by rw [(ch_s0 (aV hb1) (jP hb2) (Or.inr (yF (dF hb7))) (yF (dF hb7)) (xQ hb8)).1,(ch_s0 (aV hb1) (jP hb2) (Or.inr (yF (dF hb7))) (yF (dF hb7)) (xQ hb8)).2]<;>rfl,hS.bel⟩)
  rw [hb8]
  refine aG (aA (aB ?_))
  refine sS Tryz.f135 2 [4,5,8,9,73] [] (fun _=>[vi (nY k.s (bT k i)),vT]) (fun _=>[]) (cR [[]]<|cA (fun _=>vT) (fun _=>congrArg Value.bool (bn_n hb8))<|cN) (fun _=>?_)
  refine oY ?_
  refine sS Tryz.f135 4 [4,5,8] [] (fun _=>[.agg (kC 0 0 0 0 0 0),vi (nY k.s (bT k i)),undef,vi (nY k.s (bT k i))]) (fun _=>[(2,(bD 0 (nb ρ1 1) (cL (kC 0 0 0 0 0 0) 66)))]) (jE [[],[],[0],[]]) (fun _=>?_)
  refine aF (aC ?_)
  exact mR (v:=(.tuple #[.agg (kC 0 0 0 0 0 0),vi (nY k.s (bT k i))])) (fun _ hS=>⟨by rw [(ch_s1 (aV hb1) (jP hb2) (Or.inr (yF (dF hb7))) (yF (dF hb7)) (jP hb8)).1,(ch_s1 (aV hb1) (jP hb2) (Or.inr (yF (dF hb7))) (yF (dF hb7)) (jP hb8)).2]<;>rfl,hS.bel⟩)
 rw [hb7]
 refine rS Tryz.f135 10 [4,5,8,9] [0,1,0,1] (fun _=>let qa:=vi (wY k.p (bT k i));[jp (nb ρ1 0) 4,U k.p,.agg (hB (bT k i)),.tuple #[U (yS k.p (bT k i)),qa],.tuple #[U (yS k.p (bT k i)),qa],U (yS k.p (bT k i)),qa,jp (nb ρ22 11) 4,undef,qa]) (fun _=>[(8,(bD 3 (nb ρ22 11) (cL (kC 0 (yS k.p (bT k i)) (hmN k.c (hL (bT k i))) (k.d+1) ((i:Nat):Int) ((o8 k.p:Nat):Int)) 66)))]) (cR [[],[0],[2]]<|cC (f:=160) (args:=fun ρ=> #[U k.p,.agg (hB (bT k i))]) (v:=fun ρ=>(.tuple #[U (yS k.p (bT k i)),vi (wY k.p (bT k i))])) (fun _ w=>(fun w=>tweak_any k.p (bT k i) hk.p (twk_lt _ _) w) w)<|jE [[],[],[],[],[3],[]]) (fun _=>?_)
 refine aA (aB (jJ Tryz.f135 2 [4,5,8,9,73] [vi (wY k.p (bT k i)),.bool ((wY k.p (bT k i)) != 0)] ?_))
 refine oC ((wY k.p (bT k i)) != 0) (fun hb9=>?_) (fun hb9=>?_)
 ·
  rw [hb9]
  refine sS Tryz.f135 4 [4,5,8] [] (fun _=>[.agg (kC 0 0 0 0 0 0),vi (wY k.p (bT k i)),undef,vi (wY k.p (bT k i))]) (fun _=>[(2,(bD 0 (nb ρ1 1) (cL (kC 0 0 0 0 0 0) 66)))]) (jE [[],[],[0],[]]) (fun _=>?_)
  refine aF (aC ?_)
  exact mR (v:=(.tuple #[.agg (kC 0 0 0 0 0 0),vi (wY k.p (bT k i))])) (fun _ hS=>⟨by rw [(ch_p1 (aV hb1) (jP hb2) (Or.inl (hd_f hb3)) (yT (aV hb7)) (bne0 hb9)).1,(ch_p1 (aV hb1) (jP hb2) (Or.inl (hd_f hb3)) (yT (aV hb7)) (bne0 hb9)).2]<;>rfl,hS.bel⟩)
 rw [hb9]
 refine aG (aA ?_)
 refine sS Tryz.f135 3 [4,5] [1,0] (fun _=>[.agg (kC 0 (yS k.p (bT k i)) (hmN k.c (hL (bT k i))) (k.d+1) ((i:Nat):Int) ((o8 k.p:Nat):Int)),undef,vi 0]) (fun _=>[(1,(bD 0 (nb ρ1 1) (cL (kC 0 (yS k.p (bT k i)) (hmN k.c (hL (bT k i))) (k.d+1) ((i:Nat):Int) ((o8 k.p:Nat):Int)) 66)))]) (jE [[1],[0],[]]) (fun _=>?_)
 refine aF ?_
 exact mR (v:=(.tuple #[.agg (kC 0 (yS k.p (bT k i)) (hmN k.c (hL (bT k i))) (k.d+1) ((i:Nat):Int) ((o8 k.p:Nat):Int)),vi 0])) (fun _ hS=>⟨by rw [(ch_p0 (aV hb1) (jP hb2) (Or.inl (hd_f hb3)) (yT (aV hb7)) (bne0' hb9)).1,(ch_p0 (aV hb1) (jP hb2) (Or.inl (hd_f hb3)) (yT (aV hb7)) (bne0' hb9)).2]<;>rfl,hS.bel⟩)
theorem yH (k:Ky) (a:Option Addr) (c:Nat) (ps:List Nat) (hk:k.Ok) (hp:∀ i∈ps,i<4294967296) (w0:World) (hf0:Is w0 .u32 a c (nI ps)) (hf1:kJ w0) (hf2:fD w0):Calls Tryz.prog 105 #[.agg (kY k),.slice a (nI ps).length c] w0 (jR (.tuple #[.agg (kY (iQ k ps)),vi (nM k ps)]) w0):=by
 refine Calls.of_ok (n:=33) (F:=(fun w=>Is w .u32 a c (nI ps)∧kJ w∧fD w∧True)) Tryz.func105 rfl rfl rfl (by simp) (hf0.pers0.and (hf1.pers0.and (hf2.pers0.and cO))) ?_
 have hlen:(nI ps).length≤140737488351232:=hf0.max
 refine sS Tryz.f105 3 [1,2,4,5] [] (fun ρ=>[pt (nb ρ 0),pt (nb ρ 1),vi 0]) (fun ρ=>[(0,(nw ρ 0 (cL (kY k) 66))),(1,(nw ρ 1 (cL (kC 0 0 0 0 0 0) 66)))]) (jE [[],[],[]]) (fun ρ1=>?_)
 refine aB ?_
 refine sS Tryz.f105 3 [1,2,4,5,12] [] (fun _=>[.agg (kY k),.bool (fC k),.bool (!(fC k))]) (fun _=>[]) (cR [[0]]<|cC (fun _ w=>yN k hk w)<|jE [[]]) (fun _=>?_)
 refine oC (!(fC k)) (fun hb1=>?_) (fun hb1=>?_)
 ·
  rw [hb1]
  refine sS Tryz.f105 3 [1,2,4,5] [] (fun _=>[.agg (kC 0 0 0 0 0 0),undef,vi 6]) (fun _=>[(1,(bD 1 (nb ρ1 1) (cL (kC 0 0 0 0 0 0) 66)))]) (jE [[],[1],[]]) (fun _=>?_)
  refine aF (aC ?_)
  exact mR (v:=(.tuple #[.agg (kC 0 0 0 0 0 0),vi 6])) (ps:=[1,1,1,1,1,1,1,1,1,1,1,1,1,1,1,1,1,1,1,1,1,1,1,1,1,1,1,1,1,1,1,1,1,1,1,1,1,1,1,1,1,1,1]) (fun _ hS=>⟨by rw [(dr_6 (dF hb1)).1,(dr_6 (dF hb1)).2];rfl,hS.bel⟩)
 rw [hb1]
 refine aG (aA (aB (jJ Tryz.f105 3 [2,4,5,14,15,16] [.slice a (nI ps).length c,vn (nI ps).length,vi 0] (aI ?_))))
 refine oL (σ:=Nat × Ky) (fun ⟨j,_⟩=>[(2,(pt (nb ρ1 0))),(4,(pt (nb ρ1 1))),(14,(.slice a (nI ps).length c)),(15,(vn (nI ps).length)),(16,(vn j))]) (fun ⟨_,x⟩=>[(nb ρ1 0,(cL (kY x) 66)),(nb ρ1 1,(cL (kC 0 0 0 0 0 0) 66))]) (fun ⟨j,_⟩=>(nI ps).length-j)
   (fun ⟨j,x⟩=>(j≤(nI ps).length)∧x.Ok∧(fC x=true)∧(dvE x (ps.drop j)=dvE k ps)∧(dvK x (ps.drop j)=dvK k ps)) (0,k) (⟨Nat.zero_le _,hk,aV hb1,rfl,rfl⟩) [] ?_
 rintro ⟨j,x⟩ ⟨hj,hx,hsx,hE,hK⟩
 change Ok Tryz.prog _ _ 33 [(2,(pt (nb ρ1 0))),(4,(pt (nb ρ1 1))),(14,(.slice a (nI ps).length c)),(15,(vn (nI ps).length)),(16,(vn j))] _ [(nb ρ1 0,(cL (kY x) 66)),(nb ρ1 1,(cL (kC 0 0 0 0 0 0) 66))] (fun w=>Is w .u32 a c (nI ps)∧kJ w∧fD w∧True)
 refine jJ Tryz.f105 1 [2,4,14,15,16,17] [.bool (decide (((j:Nat):Int)<(((nI ps).length:Nat):Int)))] (aB ?_)
 refine oC (decide (((j:Nat):Int)<(((nI ps).length:Nat):Int))) (fun hb2=>?_) (fun hb2=>?_)
 ·
  rw [hb2]
  have:=yT hb2
  refine aG (aA (aB (aI ?_)))
  refine sS Tryz.f105 3 [2,4,7,14,15,16] [] (fun _=>[.pointer (fK a j),vu (ps.getD j 0),vu (ps.getD j 0)]) (fun _=>[]) (cX (qF (fun _ _ _ hG=>o6 (k:=.i64) Tryz.underlying67 Tryz.sizeOf55 hG.fn.1 rfl (show ((j:Nat):Int)=((j:Nat):Int) from rfl) (show j<(nI ps).length from (by omega))))<|cX (qF (v:=fun ρ=>(vu (ps.getD j 0))) (fun _ _ _ hG=>(rG Tryz.isAgg55 hG.fn.1 (show j<(nI ps).length from (by omega))).trans (by rw [yQ])))<|jE [[]]) (fun _=>?_)
  refine sS Tryz.f105 9 [2,4,8,9,14,15,16] [] (fun ρ=>let qa:=vi (chE x (ps.getD j 0));let qb:Value:=.agg (kY (chK x (ps.getD j 0)));[.agg (kY x),vu (ps.getD j 0),.tuple #[qb,qa],.tuple #[qb,qa],qb,qa,pt (nb ρ 6),undef,qa]) (fun ρ=>[(6,(nw ρ 6 (cL (kC 0 0 0 0 0 0) 66))),(7,(bD 50 (nb ρ 6) (cL (kY (chK x (ps.getD j 0))) 66)))]) (cR [[0],[]]<|cX (qC (fun _ _ w hG=>child_any x (ps.getD j 0) hx (get_all hp (by decide) j) w hG.fn.2.1 hG.fn.2.2.1))<|jE [[],[],[],[],[50],[]]) (fun _=>?_)
  refine aB (jJ Tryz.f105 2 [2,4,8,9,14,15,16,27] [vi (chE x (ps.getD j 0)),.bool ((chE x (ps.getD j 0)) != 0)] ?_)
  refine oC ((chE x (ps.getD j 0)) != 0) (fun hb3=>?_) (fun hb3=>?_)
  ·
   rw [hb3]
   refine sS Tryz.f105 4 [2,4,5,8,14,15,16] [] (fun _=>let qa:=vi (chE x (ps.getD j 0));[.agg (kC 0 0 0 0 0 0),qa,undef,qa]) (fun _=>[(2,(bD 1 (nb ρ1 1) (cL (kC 0 0 0 0 0 0) 66)))]) (jE [[],[],[1],[]]) (fun _=>?_)
   refine aF (aC (aP (aC (aC (aP (aC ?_))))))
   exact mR (v:=(.tuple #[.agg (kC 0 0 0 0 0 0),vi (chE x (ps.getD j 0))])) (ps:=[1,1,1,1,1,1,1,1,1,1,1,1,1,1,1,1,1,1,1,1,1,1,1,1,1,1,1,1,1,1,1,1,1,1,1,1,1,1,1,1,1,1,1]) (fun _ hS=>⟨by rw [(dv_fail (aV hb1) hsx (by have:=fZ ps;omega) hE hK hb3).1,(dv_fail (aV hb1) hsx (by have:=fZ ps;omega) hE hK hb3).2];rfl,hS.bel⟩)
  rw [hb3]
  refine aG (aA ?_)
  refine rS Tryz.f105 2 [2,4,14,15,16] [1,1,0] (fun _=>[.agg (kY (chK x (ps.getD j 0))),undef]) (fun _=>[(1,(bD 0 (nb ρ1 0) (cL (kY (chK x (ps.getD j 0))) 66)))]) (jE [[2],[0]]) (fun _=>?_)
  refine aJ (aA ?_)
  refine rS Tryz.f105 2 [2,4,14,15,16] [] (fun _=>[vn (j+1),vn (j+1)]) (fun _=>[]) (jW (fun ρ=>(((j:Nat):Int)+1)) (fun _=>(j+1)) (fun _=>(aW j 1 (by omega)))<|jE [[]]) (fun _=>?_)
  exact mN (j+1,chK x (ps.getD j 0)) (by show (nI ps).length-(j+1)<(nI ps).length-j;omega) (⟨(by omega),chK_ok _ _ (get_all hp (by decide) j),(wU hsx (by have:=fZ ps;omega) hE hK hb3).1,(wU hsx (by have:=fZ ps;omega) hE hK hb3).2.1,(wU hsx (by have:=fZ ps;omega) hE hK hb3).2.2⟩) []
 rw [hb2]
 refine bF (aN (aN (aT (aA ?_))))
 refine sS Tryz.f105 3 [4,5] [0,1] (fun _=>[.agg (kY x),undef,vi 0]) (fun _=>[(1,(bD 1 (nb ρ1 1) (cL (kY x) 66)))]) (jE [[0],[1],[]]) (fun _=>?_)
 refine aF ?_
 exact mR (v:=(.tuple #[.agg (kY x),vi 0])) (fun _ hS=>⟨by rw [(dv_done (aV hb1) (by have:=fZ ps;have:=yF hb2;omega) hE hK).1,(dv_done (aV hb1) (by have:=fZ ps;have:=yF hb2;omega) hE hK).2]<;>rfl,hS.bel⟩)
theorem dkeys_any (a:Option Addr) (c:Nat) (ts:List bW) (z:Int) (w0:World) (hf0:bM w0 a c ts) (hf1:kJ w0) (hf2:fD w0):Calls Tryz.prog 79 #[.slice a ts.length c,vi z] w0 (fun ε w'=>∃ α κ,ε=.returned (.tuple #[.slice α (gV ts z).length κ,.int .i64 (kZ ts z)])∧jG w0 w'∧dL (fun b=>b<w0.heap.size) (fun w=>Us w α κ (gV ts z)) w'):=by
 refine Calls.of_ok (n:=64) (F:=(fun w=>bM w a c ts∧kJ w∧fD w∧True)) Tryz.func79 rfl rfl rfl (by simp) (hf0.pers0.and (hf1.pers0.and (hf2.pers0.and cO))) ?_
 have hlen:ts.length≤1000000:=hf0.max
 have ho:mP ts:=hf0.oks
 refine jJ Tryz.f79 2 [0,1,4,5] [vz,vi 0] (aB ?_)
 refine sS Tryz.f79 3 [0,1,4,5,16] [] (fun _=>[.slice a ts.length c,.bool (xW ts),.bool (!(xW ts))]) (fun _=>[]) (cR [[]]<|cX (qC (fun _ _ w hG=>dvalid_any a c ts w hG.fn.1))<|jE [[]]) (fun _=>?_)
 refine oC (!(xW ts)) (fun hb1=>?_) (fun hb1=>?_)
 ·
  rw [hb1]
  refine jJ Tryz.f79 2 [0,1,4,5] [vz,vi 260] (aF (aC (mD [(0,(.slice a ts.length c)),(1,(vi z)),(4,vz),(5,(vi 260))] [] ?_)))
  exact mR (v:=(.tuple #[vz,vi 260])) (fun _ hS=>(by rw [(ky_bad (z:=z) (dF hb1)).1,(ky_bad (z:=z) (dF hb1)).2];exact ⟨none,0,rfl,hS.bel,dB (fun _=>Us.nil)⟩))
 rw [hb1]
 refine aG (aA (aB ?_))
 rcases Bool.eq_false_or_eq_true (decide (z<0)) with hb2 | hb2
 ·
  refine sS Tryz.f79 6 [0,1,4,5,22] [] (fun _=>[vi z,vT,vT,undef,undef,vT]) (fun _=>[]) (cR [[]]<|cA (fun _=>vT) (fun _=>congrArg Value.bool hb2)<|jE [[],[],[],[]]) (fun _=>?_)
  refine oY ?_
  refine jJ Tryz.f79 2 [0,1,4,5] [vz,vi 5] (aF (aC (mD [(0,(.slice a ts.length c)),(1,(vi z)),(4,vz),(5,(vi 5))] [] ?_)))
  exact mR (v:=(.tuple #[vz,vi 5])) (fun _ hS=>(by rw [(vC (aV hb1) (by have:=yT hb2;omega)).1,(vC (aV hb1) (by have:=yT hb2;omega)).2];exact ⟨none,0,rfl,hS.bel,dB (fun _=>Us.nil)⟩))
 refine sS Tryz.f79 6 [0,1,4,5,22] [] (fun _=>let qa:Value:=.bool (decide (1000≤z));[vi z,vF,vF,vi z,qa,qa]) (fun _=>[]) (cR [[]]<|cA (fun _=>vF) (fun _=>congrArg Value.bool hb2)<|jE [[],[],[],[]]) (fun _=>?_)
 refine oC (decide (1000≤z)) (fun hb3=>?_) (fun hb3=>?_)
 ·
  rw [hb3]
  refine jJ Tryz.f79 2 [0,1,4,5] [vz,vi 5] (aF (aC (mD [(0,(.slice a ts.length c)),(1,(vi z)),(4,vz),(5,(vi 5))] [] ?_)))
  exact mR (v:=(.tuple #[vz,vi 5])) (fun _ hS=>(by rw [(vC (aV hb1) (by have:=yF hb2;have:=yT hb3;omega)).1,(vC (aV hb1) (by have:=yF hb2;have:=yT hb3;omega)).2];exact ⟨none,0,rfl,hS.bel,dB (fun _=>Us.nil)⟩))
 rw [hb3]
 have:=yF hb3
 refine aG (aA (jJ Tryz.f79 1 [0,1,4,5,6] [vz] (aB (jJ Tryz.f79 3 [1,4,5,6,23,24,25] [.slice a ts.length c,vn ts.length,vi 0] (aI ?_)))))
 refine oL (σ:=Nat ⊕ (Nat × Nat × (List Nat) × (Array Value) × Nat)) (fun s=>match s with | Sum.inl i=>[(1,(vi z)),(6,vz),(23,(.slice a ts.length c)),(24,(vn ts.length)),(25,(vn i))] | Sum.inr ⟨i,q,N,_,κ⟩=>[(1,(vi z)),(6,(vs q N.length κ)),(23,(.slice a ts.length c)),(24,(vn ts.length)),(25,(vn i))]) (fun s=>match s with | Sum.inl _=>[] | Sum.inr ⟨_,q,_,C,_⟩=>[(q,(cL C 64))]) (fun s=>match s with | Sum.inl i=>ts.length-i | Sum.inr ⟨i,_,_,_,_⟩=>ts.length-i)
   (fun s=>match s with | Sum.inl i=>(i≤ts.length)∧(([]:List Nat)++xE z.toNat (aK (ts.drop i))=xE z.toNat (aK ts))∧(uU z.toNat (aK (ts.drop i))=uU z.toNat (aK ts))∧True | Sum.inr ⟨i,_,N,C,κ⟩=>(i≤ts.length)∧(N++xE z.toNat (aK (ts.drop i))=xE z.toNat (aK ts))∧(uU z.toNat (aK (ts.drop i))=uU z.toNat (aK ts))∧(kU.A C N κ)∧(∀ n∈N,n<M)) (Sum.inl 0) (⟨Nat.zero_le _,rfl,rfl,trivial⟩) [] ?_
 rintro (i | ⟨i,q,N,C,κ⟩)
 ·
  rintro ⟨hi,hN0,hE0,hnil0⟩
  change Ok Tryz.prog _ _ 64 [(1,(vi z)),(6,vz),(23,(.slice a ts.length c)),(24,(vn ts.length)),(25,(vn i))] _ [] (fun w=>bM w a c ts∧kJ w∧fD w∧True)
  refine jJ Tryz.f79 1 [1,6,23,24,25,26] [.bool (decide (((i:Nat):Int)<((ts.length:Nat):Int)))] (aB ?_)
  refine oC (decide (((i:Nat):Int)<((ts.length:Nat):Int))) (fun hb4=>?_) (fun hb4=>?_)
  ·
   rw [hb4]
   have:=yT hb4
   have:=ho.klen hf0 i
   refine aG (aA (aB (aI ?_)))
   refine sS Tryz.f79 4 [1,6,8,23,24,25] [] (fun ρ=>[.pointer (fK a (i*36)),.agg (bW.row (gT ts i)),pt (nb ρ 2),undef]) (fun ρ=>[(2,(nw ρ 2 (cL (iC 0 0 0 0 vz) 60))),(3,(bD 16 (nb ρ 2) (cL (bW.row (gT ts i)) 60)))]) (cX (qF (fun _ _ _ hG=>bM.idx (k:=.i64) Tryz.underlying24 Tryz.sizeOf60 hG.fn.1 rfl (show ((i:Nat):Int)=((i:Nat):Int) from rfl) (show i<ts.length from (by have:=yF hb2;omega))))<|cX (qF (fun _ _ _ hG=>bM.ldA (i:=i) Tryz.isAgg60 Tryz.sizeOf60 hG.fn.1 (show i<ts.length from (by have:=yF hb2;omega))))<|jE [[],[16]]) (fun ρ11=>?_)
   refine jM Tryz.f79 4 [1,6,23,24,25,30,31,32] [0] [jp (nb ρ11 2) 35,.slice (gT ts i).ka (gT ts i).ks.length (gT ts i).kc,vn (gT ts i).ks.length,vi 0] [[],[0],[],[]] (aI ?_)
   refine oL (σ:=Nat ⊕ (Nat × Nat × (List Nat) × (Array Value) × Nat)) (fun s=>match s with | Sum.inl j=>[(1,(vi z)),(6,vz),(23,(.slice a ts.length c)),(24,(vn ts.length)),(25,(vn i)),(30,(.slice (gT ts i).ka (gT ts i).ks.length (gT ts i).kc)),(31,(vn (gT ts i).ks.length)),(32,(vn j))] | Sum.inr ⟨j,q,N,_,κ⟩=>[(1,(vi z)),(6,(vs q N.length κ)),(23,(.slice a ts.length c)),(24,(vn ts.length)),(25,(vn i)),(30,(.slice (gT ts i).ka (gT ts i).ks.length (gT ts i).kc)),(31,(vn (gT ts i).ks.length)),(32,(vn j))]) (fun s=>match s with | Sum.inl _=>[] | Sum.inr ⟨_,q,_,C,_⟩=>[(q,(cL C 64))]) (fun s=>match s with | Sum.inl j=>(gT ts i).ks.length-j | Sum.inr ⟨j,_,_,_,_⟩=>(gT ts i).ks.length-j)
     (fun s=>match s with | Sum.inl j=>(j≤(gT ts i).ks.length)∧(([]:List Nat)++xE z.toNat ((gT ts i).ks.drop j++aK (ts.drop (i+1)))=xE z.toNat (aK ts))∧(uU z.toNat ((gT ts i).ks.drop j++aK (ts.drop (i+1)))=uU z.toNat (aK ts))∧True | Sum.inr ⟨j,_,N,C,κ⟩=>(j≤(gT ts i).ks.length)∧(N++xE z.toNat ((gT ts i).ks.drop j++aK (ts.drop (i+1)))=xE z.toNat (aK ts))∧(uU z.toNat ((gT ts i).ks.drop j++aK (ts.drop (i+1)))=uU z.toNat (aK ts))∧(kU.A C N κ)∧(∀ n∈N,n<M)) (Sum.inl 0) (⟨Nat.zero_le _,kn_in (show i<ts.length from (by have:=yF hb2;omega)) hN0,ke_in (show i<ts.length from (by have:=yF hb2;omega)) hE0,trivial⟩) [] ?_
   rintro (j | ⟨j,q,N,C,κ⟩)
   ·
    rintro ⟨hj,hN,hE,hnil⟩
    change Ok Tryz.prog _ _ 64 [(1,(vi z)),(6,vz),(23,(.slice a ts.length c)),(24,(vn ts.length)),(25,(vn i)),(30,(.slice (gT ts i).ka (gT ts i).ks.length (gT ts i).kc)),(31,(vn (gT ts i).ks.length)),(32,(vn j))] _ [] (fun w=>bM w a c ts∧kJ w∧fD w∧True)
    refine jJ Tryz.f79 1 [1,6,23,24,25,30,31,32,33] [.bool (decide (((j:Nat):Int)<(((gT ts i).ks.length:Nat):Int)))] (aB ?_)
    refine oC (decide (((j:Nat):Int)<(((gT ts i).ks.length:Nat):Int))) (fun hb5=>?_) (fun hb5=>?_)
    ·
     rw [hb5]
     have:=yT hb5
     refine aG (aA (aB (aI ?_)))
     refine sS Tryz.f79 4 [1,6,10,23,24,25,30,31,32] [] (fun ρ=>[.pointer (fK (gT ts i).ka (j*45)),.agg (dO.row (gK (gT ts i).ks j)),pt (nb ρ 2),undef]) (fun ρ=>[(2,(nw ρ 2 (cL (kM 0 0 0 0 0 0 vz vF) 69))),(3,(bD 16 (nb ρ 2) (cL (dO.row (gK (gT ts i).ks j)) 69)))]) (cX (qF (fun _ _ _ hG=>oG.idx (k:=.i64) Tryz.underlying58 Tryz.sizeOf69 (hG.fn.1.sub _ (fA (show i<ts.length from (by have:=yF hb2;omega)))) rfl (show ((j:Nat):Int)=((j:Nat):Int) from rfl) (show j<(gT ts i).ks.length from (by have:=yF hb2;omega))))<|cX (qF (fun _ _ _ hG=>oG.ldA (i:=j) Tryz.isAgg69 Tryz.sizeOf69 (hG.fn.1.sub _ (fA (show i<ts.length from (by have:=yF hb2;omega)))) (show j<(gT ts i).ks.length from (by have:=yF hb2;omega))))<|jE [[],[16]]) (fun ρ14=>?_)
     refine okJ2 (σ:=(Option Addr) × Nat × (List Nat)) (fun ⟨pa,pc,pq⟩=>[(1,(vi z)),(6,vz),(10,(pt (nb ρ14 2))),(11,(.slice pa (nI pq).length pc)),(23,(.slice a ts.length c)),(24,(vn ts.length)),(25,(vn i)),(30,(.slice (gT ts i).ka (gT ts i).ks.length (gT ts i).kc)),(31,(vn (gT ts i).ks.length)),(32,(vn j))]) (fun ⟨_,_,_⟩=>[(nb ρ14 2,(cL (dO.row (gK (gT ts i).ks j)) 69))]) (fun ⟨pa,pc,pq⟩=>(fun w=>bM w a c ts∧kJ w∧fD w∧Is w .u32 pa pc (nI pq)∧True)) (fun ⟨_,_,pq⟩=>((gK (gT ts i).ks j).ix z.toNat=pq)∧(∀ x∈pq,x<4294967296)) ?_ ?_
     ·
      rintro ⟨pa,pc,pq⟩ ⟨hq,hq32⟩
      change Ok Tryz.prog _ _ 64 [(1,(vi z)),(6,vz),(10,(pt (nb ρ14 2))),(11,(.slice pa (nI pq).length pc)),(23,(.slice a ts.length c)),(24,(vn ts.length)),(25,(vn i)),(30,(.slice (gT ts i).ka (gT ts i).ks.length (gT ts i).kc)),(31,(vn (gT ts i).ks.length)),(32,(vn j))] _ [(nb ρ14 2,(cL (dO.row (gK (gT ts i).ks j)) 69))] (fun w=>bM w a c ts∧kJ w∧fD w∧Is w .u32 pa pc (nI pq)∧True)
      refine sS Tryz.f79 10 [1,6,12,13,23,24,25,30,31,32] [0,1] (fun ρ=>let qa:=vi (nM (gK (gT ts i).ks j).k pq);let qb:Value:=.agg (kY (iQ (gK (gT ts i).ks j).k pq));[pt (nb ρ14 2),.agg (kY (gK (gT ts i).ks j).k),.slice pa (nI pq).length pc,.tuple #[qb,qa],.tuple #[qb,qa],qb,qa,pt (nb ρ 7),undef,qa]) (fun ρ=>[(7,(nw ρ 7 (cL (kC 0 0 0 0 0 0) 66))),(8,(bD 57 (nb ρ 7) (cL (kY (iQ (gK (gT ts i).ks j).k pq)) 66)))]) (cR [[],[0],[]]<|cX (qC (fun _ _ w hG=>yH (gK (gT ts i).ks j).k pa pc pq (ho.gK i j).k hq32 w hG.fn.2.2.2.1 hG.fn.2.1 hG.fn.2.2.1))<|jE [[],[],[],[],[57],[]]) (fun ρ15=>?_)
      refine aB (jJ Tryz.f79 2 [1,6,12,13,23,24,25,30,31,32,54] [vi (nM (gK (gT ts i).ks j).k pq),.bool ((nM (gK (gT ts i).ks j).k pq) != 0)] ?_)
      refine oC ((nM (gK (gT ts i).ks j).k pq) != 0) (fun hb6=>?_) (fun hb6=>?_)
      ·
       rw [hb6]
       refine jJ Tryz.f79 3 [1,4,5,6,12,23,24,25,30,31,32] (let qa:=vi (nM (gK (gT ts i).ks j).k pq);[qa,vz,qa]) (aF (aC (aP (aC (aC (aP (aP (aC (aC (aP (aC (mD [(1,(vi z)),(4,vz),(5,(vi (nM (gK (gT ts i).ks j).k pq))),(6,vz),(12,(pt (nb ρ15 7))),(23,(.slice a ts.length c)),(24,(vn ts.length)),(25,(vn i)),(30,(.slice (gT ts i).ka (gT ts i).ks.length (gT ts i).kc)),(31,(vn (gT ts i).ks.length)),(32,(vn j))] [(nb ρ15 7,(cL (kY (iQ (gK (gT ts i).ks j).k pq)) 66))] ?_))))))))))))
       exact mR (v:=(.tuple #[vz,vi (nM (gK (gT ts i).ks j).k pq)])) (fun _ hS=>(by rw [(pI (aV hb1) hb2 hb3 (l7 (show j<(gT ts i).ks.length from (by have:=yF hb2;omega)) hq hb6 hE) hb6).1,(pI (aV hb1) hb2 hb3 (l7 (show j<(gT ts i).ks.length from (by have:=yF hb2;omega)) hq hb6 hE) hb6).2];exact ⟨none,0,rfl,hS.bel,dB (fun _=>Us.nil)⟩))
      rw [hb6]
      refine aG (aA ?_)
      refine rS Tryz.f79 6 [1,6,23,24,25,30,31,32] [0,0,1] (fun ρ=>let qa:=vs (nb ρ 4) ([(iQ (gK (gT ts i).ks j).k pq).p]).length (([(iQ (gK (gT ts i).ks j).k pq).p]).length+aZ ρ 4);[vz,jp (nb ρ15 7) 4,U (iQ (gK (gT ts i).ks j).k pq).p,vs (nb ρ 3) 1 1,qa,qa]) (fun ρ=>[(3,(nw ρ 3 (cL (cU (iQ (gK (gT ts i).ks j).k pq).p) 64))),(4,(nw ρ 4 (cL ((kU.r ([(iQ (gK (gT ts i).ks j).k pq).p])).toArray++Builtin.zeroCells (Value.cells (U 0)) (aZ ρ 4)) 64)))]) (cR [[],[],[0],[]]<|cX (qN (fun _ ζ=>(vs (ζ.headD 0) ([(iQ (gK (gT ts i).ks j).k pq).p]).length (([(iQ (gK (gT ts i).ks j).k pq).p]).length+ζ.tail.headD 0))) (fun _ ζ=>(cL ((kU.r ([(iQ (gK (gT ts i).ks j).k pq).p])).toArray++Builtin.zeroCells (Value.cells (U 0)) (ζ.tail.headD 0)) 64)) (fun ρ _ _ hG=>pX (K:=kU) (ty:=80) (us:=[(iQ (gK (gT ts i).ks j).k pq).p]) Tryz.underlying80 (dA (sz:=4) (b:=32) (z:=(U 0)) (by kernel_rfl) rfl) (src_u1 Tryz.underlying80 (hG.kn (g:=nb ρ 3) (o:=(cL (cU (iQ (gK (gT ts i).ks j).k pq).p) 64)) 25)) (Nat.le_of_ble_eq_true rfl) (Nat.le_of_ble_eq_true rfl) (by decide)))<|jE [[]]) (fun ρ18=>?_)
      refine aJ (aA ?_)
      refine rS Tryz.f79 2 [1,6,23,24,25,30,31,32] [] (fun _=>[vn (j+1),vn (j+1)]) (fun _=>[]) (jW (fun ρ=>(((j:Nat):Int)+1)) (fun _=>(j+1)) (fun _=>(aW j 1 (by have:=yF hb2;omega)))<|jE [[]]) (fun _=>?_)
      refine nD (fun w=>bM w a c ts∧kJ w∧fD w∧True) (fun w hF=>⟨hF.1,hF.2.1,hF.2.2.1,trivial⟩) ?_
      exact mN (Sum.inr (j+1,nb ρ18 4,[(iQ (gK (gT ts i).ks j).k pq).p],(kU.r ([(iQ (gK (gT ts i).ks j).k pq).p])).toArray++Builtin.zeroCells (Value.cells (U 0)) (aZ ρ18 4),([(iQ (gK (gT ts i).ks j).k pq).p]).length+aZ ρ18 4)) (by show (gT ts i).ks.length-(j+1)<(gT ts i).ks.length-j;have:=yF hb2;omega) (⟨(by have:=yF hb2;omega),wV (show j<(gT ts i).ks.length from (by have:=yF hb2;omega)) hq hN,xJ (show j<(gT ts i).ks.length from (by have:=yF hb2;omega)) hq hb6 hE,RowK.A.fresh (K:=kU) (z:=(U 0)) rfl ([(iQ (gK (gT ts i).ks j).k pq).p]) (aZ ρ18 4),(fun n hn=>by rw [List.mem_singleton.1 hn];exact (yR (ho.gK i j).k hq32).p)⟩) []
     intro J1
     rcases Bool.eq_false_or_eq_true (gK (gT ts i).ks j).pa.isNone with hb7 | hb7
     ·
      refine sS Tryz.f79 4 [1,6,10,11,23,24,25,30,31,32] [] (fun _=>[jp (nb ρ14 2) 43,.slice (gK (gT ts i).ks j).pa (nI (gK (gT ts i).ks j).ps).length (gK (gT ts i).ks j).pc,vz,vz]) (fun _=>[]) (cR [[],[0]]<|cX (qC (fun _ _ w hG=>yK (gK (gT ts i).ks j).pa (gK (gT ts i).ks j).pc (gK (gT ts i).ks j).ps hb7 w ((hG.fn.1.sub _ (fA (show i<ts.length from (by have:=yF hb2;omega)))).sub _ (nU (show j<(gT ts i).ks.length from (by have:=yF hb2;omega))))))<|jE [[]]) (fun _=>?_)
      refine aB (jM Tryz.f79 2 [1,6,10,11,23,24,25,30,31,32,40] [] [jp (nb ρ14 2) 44,.bool (gK (gT ts i).ks j).wd] [[],[0]] ?_)
      refine oC (gK (gT ts i).ks j).wd (fun hb8=>?_) (fun hb8=>?_)
      ·
       rw [hb8]
       refine rS Tryz.f79 6 [1,6,10,11,23,24,25,30,31,32] [1,0,1] (fun ρ=>let qa:=vs (nb ρ 4) (nI ([z.toNat])).length ((nI ([z.toNat])).length+aZ ρ 4);[vz,vi z,vu z.toNat,vs (nb ρ 3) 1 1,qa,qa]) (fun ρ=>[(3,(nw ρ 3 (cL #[vu z.toNat] 55))),(4,(nw ρ 4 (cL ((kI.r ([z.toNat])).toArray++Builtin.zeroCells (Value.cells (.int .u32 0)) (aZ ρ 4)) 55)))]) (cR [[],[]]<|cA (fun _=>(vu z.toNat)) (fun _=>jN (u32Z hb2 hb3))<|cR [[]]<|cX (qN (fun _ ζ=>(vs (ζ.headD 0) (nI ([z.toNat])).length ((nI ([z.toNat])).length+ζ.tail.headD 0))) (fun _ ζ=>(cL ((kI.r ([z.toNat])).toArray++Builtin.zeroCells (Value.cells (.int .u32 0)) (ζ.tail.headD 0)) 55)) (fun ρ _ _ hG=>appI_nil (ty:=67) (us:=[z.toNat]) Tryz.underlying67 (dA (sz:=1) (b:=4) (z:=(.int .u32 0)) (by kernel_rfl) rfl) (tJ Tryz.underlying67 (hG.kn (g:=nb ρ 3) (o:=(cL #[vu z.toNat] 55)) 25)) (Nat.le_of_ble_eq_true rfl) (Nat.le_of_ble_eq_true rfl) (by decide)))<|jE [[]]) (fun ρ22=>?_)
       refine aA ?_
       refine lK [(1,(vi z)),(6,vz),(10,(pt (nb ρ14 2))),(11,(vs (nb ρ22 4) (nI ([z.toNat])).length ((nI ([z.toNat])).length+aZ ρ22 4))),(23,(.slice a ts.length c)),(24,(vn ts.length)),(25,(vn i)),(30,(.slice (gT ts i).ka (gT ts i).ks.length (gT ts i).kc)),(31,(vn (gT ts i).ks.length)),(32,(vn j))] [(nb ρ14 2,(cL (dO.row (gK (gT ts i).ks j)) 69)),(nb ρ22 4,(cL ((kI.r ([z.toNat])).toArray++Builtin.zeroCells (Value.cells (.int .u32 0)) (aZ ρ22 4)) 55))] ?_
       exact okE J1 (some ⟨nb ρ22 4,0,none⟩,(nI ([z.toNat])).length+aZ ρ22 4,[z.toNat]) (⟨(ix_b hb8 (hf0.pathN (show i<ts.length from (by have:=yF hb2;omega)) (show j<(gT ts i).ks.length from (by have:=yF hb2;omega)) hb7)),(fun x hx=>by rw [List.mem_singleton.1 hx];exact (z32n hb2 hb3))⟩) (fun w hS=>(hS.frozI (e:=55) (fr:=(0,0)) 1 (RowK.A.fresh (K:=kI) (z:=(.int .u32 0)) rfl ([z.toNat]) (aZ ρ22 4)) (by have:=jC (aV hb1) (show i<ts.length from (by have:=yF hb2;omega)) (show j<(gT ts i).ks.length from (by have:=yF hb2;omega));simp only [List.length_cons,List.length_nil];omega) []).weaken (fun w hF=>⟨hF.2.1,hF.2.2.1,hF.2.2.2.1,hF.1,trivial⟩))
      rw [hb8]
      refine aG (aA ?_)
      refine lK [(1,(vi z)),(6,vz),(10,(pt (nb ρ14 2))),(11,vz),(23,(.slice a ts.length c)),(24,(vn ts.length)),(25,(vn i)),(30,(.slice (gT ts i).ka (gT ts i).ks.length (gT ts i).kc)),(31,(vn (gT ts i).ks.length)),(32,(vn j)),(40,vF)] [(nb ρ14 2,(cL (dO.row (gK (gT ts i).ks j)) 69))] ?_
      exact okE J1 (none,0,[]) (⟨(ix_a hb8 (hf0.pathN (show i<ts.length from (by have:=yF hb2;omega)) (show j<(gT ts i).ks.length from (by have:=yF hb2;omega)) hb7)),(by simp)⟩) (fun w hS=>(hS.frozN (k:=.u32) (a:=none) (c:=0) []).weaken (fun w hF=>⟨hF.2.1,hF.2.2.1,hF.2.2.2.1,hF.1,trivial⟩))
     refine iZ Tryz.f79 4 [1,6,10,11,23,24,25,30,31,32] [] (fun ρ=>let qa:=vs (nb ρ 2) (nI (gK (gT ts i).ks j).ps).length (aZ ρ 2);[jp (nb ρ14 2) 43,.slice (gK (gT ts i).ks j).pa (nI (gK (gT ts i).ks j).ps).length (gK (gT ts i).ks j).pc,qa,qa]) (fun ρ=>[(2,(nw ρ 2 (cL (oc ρ 2) 55)))]) (fun ρ=>[(2,fun w=>kI.A (oc ρ 2) (gK (gT ts i).ks j).ps (aZ ρ 2))]) (fun _=>(fun w=>bM w a c ts∧kJ w∧fD w∧True)) (fun ρ=>kI.A (oc ρ 2) (gK (gT ts i).ks j).ps (aZ ρ 2)) (fun _ _ hF hf=>⟨hF,hf 2⟩) (cR [[],[0]]<|cX (rM _ 58 (fun _=> #[.slice (gK (gT ts i).ks j).pa (nI (gK (gT ts i).ks j).ps).length (gK (gT ts i).ks j).pc]) (fun _ r=>(vs (r.n.headD 0) (nI (gK (gT ts i).ks j).ps).length (r.n.tail.headD 0))) (fun _ r=>(cL (uG r) 55)) (fun _ r=>kI.A (uG r) (gK (gT ts i).ks j).ps (r.n.tail.headD 0)) (fun _ _=>(by kernel_rfl)) (fun _ _=>(by kernel_rfl)) (fun _ _=>(by kernel_rfl)) (fun _ _=>(by kernel_rfl)) (fun _ _ w hG=>yP (gK (gT ts i).ks j).pa (gK (gT ts i).ks j).pc (gK (gT ts i).ks j).ps hb7 (jC (aV hb1) (show i<ts.length from (by have:=yF hb2;omega)) (show j<(gT ts i).ks.length from (by have:=yF hb2;omega))) w ((hG.fn.1.sub _ (fA (show i<ts.length from (by have:=yF hb2;omega)))).sub _ (nU (show j<(gT ts i).ks.length from (by have:=yF hb2;omega))))))<|jE [[]]) (fun ρ23 ap23_2=>?_)
     refine aB (jM Tryz.f79 2 [1,6,10,11,23,24,25,30,31,32,40] [] [jp (nb ρ14 2) 44,.bool (gK (gT ts i).ks j).wd] [[],[0]] ?_)
     refine oC (gK (gT ts i).ks j).wd (fun hb9=>?_) (fun hb9=>?_)
     ·
      rw [hb9]
      refine rSf Tryz.f79 6 [1,6,10,11,23,24,25,30,31,32] [1,1,0] (fun ρ=>let qa:=vs (nb ρ 4) (nI ((gK (gT ts i).ks j).ps++([z.toNat]))).length (aZ ρ 4);[vs (nb ρ23 2) (nI (gK (gT ts i).ks j).ps).length (aZ ρ23 2),vi z,vu z.toNat,vs (nb ρ 3) 1 1,qa,qa]) (fun ρ=>[(3,(nw ρ 3 (cL #[vu z.toNat] 55))),(4,(bD 1 (nb ρ 4) (cL (oc ρ 4) 55)))]) (fun ρ=>[(4,fun w=>kI.A (oc ρ 4) ((gK (gT ts i).ks j).ps++([z.toNat])) (aZ ρ 4))]) (fun _=>(fun w=>bM w a c ts∧kJ w∧fD w∧True)) (fun ρ=>kI.A (oc ρ 4) ((gK (gT ts i).ks j).ps++([z.toNat])) (aZ ρ 4)) (fun _ _ hF hf=>⟨hF,hf 4⟩) (cR [[],[]]<|cA (fun _=>(vu z.toNat)) (fun _=>jN (u32Z hb2 hb3))<|cR [[]]<|cX (qM 1 (fun ρ _ _ hG hg=>lT (ty:=67) (g:=nb ρ23 2) (ts:=(gK (gT ts i).ks j).ps) (us:=[z.toNat]) Tryz.underlying67 (dA (sz:=1) (b:=4) (z:=(.int .u32 0)) (by kernel_rfl) rfl) ap23_2 (tJ Tryz.underlying67 (hG.kn (g:=nb ρ 3) (o:=(cL #[vu z.toNat] 55)) 26)) (by have:=jC (aV hb1) (show i<ts.length from (by have:=yF hb2;omega)) (show j<(gT ts i).ks.length from (by have:=yF hb2;omega));simp only [List.length_cons,List.length_nil];omega) (by decide) hg))<|jE [[]]) (fun ρ25 ap25_4=>?_)
      refine aA ?_
      refine lK [(1,(vi z)),(6,vz),(10,(pt (nb ρ14 2))),(11,(vs (nb ρ25 4) (nI ((gK (gT ts i).ks j).ps++([z.toNat]))).length (aZ ρ25 4))),(23,(.slice a ts.length c)),(24,(vn ts.length)),(25,(vn i)),(30,(.slice (gT ts i).ka (gT ts i).ks.length (gT ts i).kc)),(31,(vn (gT ts i).ks.length)),(32,(vn j))] [(nb ρ14 2,(cL (dO.row (gK (gT ts i).ks j)) 69)),(nb ρ25 4,(cL (oc ρ25 4) 55))] ?_
      exact okE J1 (some ⟨nb ρ25 4,0,none⟩,aZ ρ25 4,(gK (gT ts i).ks j).ps++[z.toNat]) (⟨ix_d hb9,(fun x hx=>(List.mem_append.1 hx).elim ((ho.gK i j).ps x) (fun hx=>by rw [List.mem_singleton.1 hx];exact (z32n hb2 hb3)))⟩) (fun w hS=>(hS.frozI (e:=55) (fr:=(0,0)) 1 ap25_4 (by have:=jC (aV hb1) (show i<ts.length from (by have:=yF hb2;omega)) (show j<(gT ts i).ks.length from (by have:=yF hb2;omega));simp only [List.length_append,List.length_cons,List.length_nil];omega) []).weaken (fun w hF=>⟨hF.2.1,hF.2.2.1,hF.2.2.2.1,hF.1,trivial⟩))
     rw [hb9]
     refine aG (aA ?_)
     refine lK [(1,(vi z)),(6,vz),(10,(pt (nb ρ14 2))),(11,(vs (nb ρ23 2) (nI (gK (gT ts i).ks j).ps).length (aZ ρ23 2))),(23,(.slice a ts.length c)),(24,(vn ts.length)),(25,(vn i)),(30,(.slice (gT ts i).ka (gT ts i).ks.length (gT ts i).kc)),(31,(vn (gT ts i).ks.length)),(32,(vn j)),(40,vF)] [(nb ρ14 2,(cL (dO.row (gK (gT ts i).ks j)) 69)),(nb ρ23 2,(cL (oc ρ23 2) 55))] ?_
     exact okE J1 (some ⟨nb ρ23 2,0,none⟩,aZ ρ23 2,(gK (gT ts i).ks j).ps) (⟨ix_c hb9,(ho.gK i j).ps⟩) (fun w hS=>(hS.frozI (e:=55) (fr:=(0,0)) 1 ap23_2 (by have:=jC (aV hb1) (show i<ts.length from (by have:=yF hb2;omega)) (show j<(gT ts i).ks.length from (by have:=yF hb2;omega));omega) []).weaken (fun w hF=>⟨hF.2.1,hF.2.2.1,hF.2.2.2.1,hF.1,trivial⟩))
    rw [hb5]
    have:=yF hb5
    refine bF (aN (aN (aT (aJ (aA ?_)))))
    refine rS Tryz.f79 2 [1,6,23,24,25] [] (fun _=>[vn (i+1),vn (i+1)]) (fun _=>[]) (jW (fun ρ=>(((i:Nat):Int)+1)) (fun _=>(i+1)) (fun _=>(aW i 1 (by have:=yF hb2;omega)))<|jE [[]]) (fun _=>?_)
    exact mN (Sum.inl (i+1)) (by show ts.length-(i+1)<ts.length-i;have:=yF hb2;omega) (⟨(by have:=yF hb2;omega),kn_out (by have:=yF hb2;omega) hN,ke_out (by have:=yF hb2;omega) hE,trivial⟩) []
   rintro ⟨hj,hN,hE,hA,hM⟩
   change Ok Tryz.prog _ _ 64 [(1,(vi z)),(6,(vs q N.length κ)),(23,(.slice a ts.length c)),(24,(vn ts.length)),(25,(vn i)),(30,(.slice (gT ts i).ka (gT ts i).ks.length (gT ts i).kc)),(31,(vn (gT ts i).ks.length)),(32,(vn j))] _ [(q,(cL C 64))] (fun w=>bM w a c ts∧kJ w∧fD w∧True)
   refine jJ Tryz.f79 1 [1,6,23,24,25,30,31,32,33] [.bool (decide (((j:Nat):Int)<(((gT ts i).ks.length:Nat):Int)))] (aB ?_)
   refine oC (decide (((j:Nat):Int)<(((gT ts i).ks.length:Nat):Int))) (fun hb10=>?_) (fun hb10=>?_)
   ·
    rw [hb10]
    have:=yT hb10
    refine aG (aA (aB (aI ?_)))
    refine sS Tryz.f79 4 [1,6,10,23,24,25,30,31,32] [] (fun ρ=>[.pointer (fK (gT ts i).ka (j*45)),.agg (dO.row (gK (gT ts i).ks j)),pt (nb ρ 2),undef]) (fun ρ=>[(2,(nw ρ 2 (cL (kM 0 0 0 0 0 0 vz vF) 69))),(3,(bD 17 (nb ρ 2) (cL (dO.row (gK (gT ts i).ks j)) 69)))]) (cX (qF (fun _ _ _ hG=>oG.idx (k:=.i64) Tryz.underlying58 Tryz.sizeOf69 (hG.fn.1.sub _ (fA (show i<ts.length from (by have:=yF hb2;omega)))) rfl (show ((j:Nat):Int)=((j:Nat):Int) from rfl) (show j<(gT ts i).ks.length from (by have:=yF hb2;omega))))<|cX (qF (fun _ _ _ hG=>oG.ldA (i:=j) Tryz.isAgg69 Tryz.sizeOf69 (hG.fn.1.sub _ (fA (show i<ts.length from (by have:=yF hb2;omega)))) (show j<(gT ts i).ks.length from (by have:=yF hb2;omega))))<|jE [[],[17]]) (fun ρ28=>?_)
    refine okJ2 (σ:=(Option Addr) × Nat × (List Nat)) (fun ⟨pa,pc,pq⟩=>[(1,(vi z)),(6,(vs q N.length κ)),(10,(pt (nb ρ28 2))),(11,(.slice pa (nI pq).length pc)),(23,(.slice a ts.length c)),(24,(vn ts.length)),(25,(vn i)),(30,(.slice (gT ts i).ka (gT ts i).ks.length (gT ts i).kc)),(31,(vn (gT ts i).ks.length)),(32,(vn j))]) (fun ⟨_,_,_⟩=>[(q,(cL C 64)),(nb ρ28 2,(cL (dO.row (gK (gT ts i).ks j)) 69))]) (fun ⟨pa,pc,pq⟩=>(fun w=>bM w a c ts∧kJ w∧fD w∧Is w .u32 pa pc (nI pq)∧True)) (fun ⟨_,_,pq⟩=>((gK (gT ts i).ks j).ix z.toNat=pq)∧(∀ x∈pq,x<4294967296)) ?_ ?_
    ·
     rintro ⟨pa,pc,pq⟩ ⟨hq,hq32⟩
     change Ok Tryz.prog _ _ 64 [(1,(vi z)),(6,(vs q N.length κ)),(10,(pt (nb ρ28 2))),(11,(.slice pa (nI pq).length pc)),(23,(.slice a ts.length c)),(24,(vn ts.length)),(25,(vn i)),(30,(.slice (gT ts i).ka (gT ts i).ks.length (gT ts i).kc)),(31,(vn (gT ts i).ks.length)),(32,(vn j))] _ [(q,(cL C 64)),(nb ρ28 2,(cL (dO.row (gK (gT ts i).ks j)) 69))] (fun w=>bM w a c ts∧kJ w∧fD w∧Is w .u32 pa pc (nI pq)∧True)
     refine sS Tryz.f79 10 [1,6,12,13,23,24,25,30,31,32] [1,0,1] (fun ρ=>let qa:=vi (nM (gK (gT ts i).ks j).k pq);let qb:Value:=.agg (kY (iQ (gK (gT ts i).ks j).k pq));[pt (nb ρ28 2),.agg (kY (gK (gT ts i).ks j).k),.slice pa (nI pq).length pc,.tuple #[qb,qa],.tuple #[qb,qa],qb,qa,pt (nb ρ 7),undef,qa]) (fun ρ=>[(7,(nw ρ 7 (cL (kC 0 0 0 0 0 0) 66))),(8,(bD 58 (nb ρ 7) (cL (kY (iQ (gK (gT ts i).ks j).k pq)) 66)))]) (cR [[],[1],[]]<|cX (qC (fun _ _ w hG=>yH (gK (gT ts i).ks j).k pa pc pq (ho.gK i j).k hq32 w hG.fn.2.2.2.1 hG.fn.2.1 hG.fn.2.2.1))<|jE [[],[],[],[],[58],[]]) (fun ρ29=>?_)
     refine aB (jJ Tryz.f79 2 [1,6,12,13,23,24,25,30,31,32,54] [vi (nM (gK (gT ts i).ks j).k pq),.bool ((nM (gK (gT ts i).ks j).k pq) != 0)] ?_)
     refine oC ((nM (gK (gT ts i).ks j).k pq) != 0) (fun hb11=>?_) (fun hb11=>?_)
     ·
      rw [hb11]
      refine jJ Tryz.f79 3 [1,4,5,6,12,23,24,25,30,31,32] (let qa:=vi (nM (gK (gT ts i).ks j).k pq);[qa,vz,qa]) (aF (aC (aP (aC (aC (aP (aP (aC (aC (aP (aC (mD [(1,(vi z)),(4,vz),(5,(vi (nM (gK (gT ts i).ks j).k pq))),(6,(vs q N.length κ)),(12,(pt (nb ρ29 7))),(23,(.slice a ts.length c)),(24,(vn ts.length)),(25,(vn i)),(30,(.slice (gT ts i).ka (gT ts i).ks.length (gT ts i).kc)),(31,(vn (gT ts i).ks.length)),(32,(vn j))] [(q,(cL C 64)),(nb ρ29 7,(cL (kY (iQ (gK (gT ts i).ks j).k pq)) 66))] ?_))))))))))))
      exact mR (v:=(.tuple #[vz,vi (nM (gK (gT ts i).ks j).k pq)])) (fun _ hS=>(by rw [(pI (aV hb1) hb2 hb3 (l7 (show j<(gT ts i).ks.length from (by have:=yF hb2;omega)) hq hb11 hE) hb11).1,(pI (aV hb1) hb2 hb3 (l7 (show j<(gT ts i).ks.length from (by have:=yF hb2;omega)) hq hb11 hE) hb11).2];exact ⟨none,0,rfl,hS.bel,dB (fun _=>Us.nil)⟩))
     rw [hb11]
     refine aG (aA ?_)
     refine rSf Tryz.f79 6 [1,6,23,24,25,30,31,32] [1,0,0] (fun ρ=>let qa:=vs (nb ρ 4) (N++([(iQ (gK (gT ts i).ks j).k pq).p])).length (aZ ρ 4);[vs q N.length κ,jp (nb ρ29 7) 4,U (iQ (gK (gT ts i).ks j).k pq).p,vs (nb ρ 3) 1 1,qa,qa]) (fun ρ=>[(3,(nw ρ 3 (cL (cU (iQ (gK (gT ts i).ks j).k pq).p) 64))),(4,(bD 0 (nb ρ 4) (cL (oc ρ 4) 64)))]) (fun ρ=>[(4,fun w=>kU.A (oc ρ 4) (N++([(iQ (gK (gT ts i).ks j).k pq).p])) (aZ ρ 4))]) (fun _=>(fun w=>bM w a c ts∧kJ w∧fD w∧Is w .u32 pa pc (nI pq)∧True)) (fun ρ=>kU.A (oc ρ 4) (N++([(iQ (gK (gT ts i).ks j).k pq).p])) (aZ ρ 4)) (fun _ _ hF hf=>⟨hF,hf 4⟩) (cR [[],[],[1],[]]<|cX (qM 0 (fun ρ _ _ hG hg=>wB (K:=kU) (ty:=80) (g:=q) (ts:=N) (us:=[(iQ (gK (gT ts i).ks j).k pq).p]) Tryz.underlying80 (dA (sz:=4) (b:=32) (z:=(U 0)) (by kernel_rfl) rfl) hA (src_u1 Tryz.underlying80 (hG.kn (g:=nb ρ 3) (o:=(cL (cU (iQ (gK (gT ts i).ks j).k pq).p) 64)) 26)) (by have:=kn_len (aV hb1) hN;have:=zN (R:=aK (ts.drop (i+1))) (show j<(gT ts i).ks.length from (by have:=yF hb2;omega));simp only [List.length_cons,List.length_nil];omega) (by decide) hg))<|jE [[]]) (fun ρ32 ap32_4=>?_)
     refine aJ (aA ?_)
     refine rS Tryz.f79 2 [1,6,23,24,25,30,31,32] [] (fun _=>[vn (j+1),vn (j+1)]) (fun _=>[]) (jW (fun ρ=>(((j:Nat):Int)+1)) (fun _=>(j+1)) (fun _=>(aW j 1 (by have:=yF hb2;omega)))<|jE [[]]) (fun _=>?_)
     refine nD (fun w=>bM w a c ts∧kJ w∧fD w∧True) (fun w hF=>⟨hF.1,hF.2.1,hF.2.2.1,trivial⟩) ?_
     exact mN (Sum.inr (j+1,nb ρ32 4,N++([(iQ (gK (gT ts i).ks j).k pq).p]),oc ρ32 4,aZ ρ32 4)) (by show (gT ts i).ks.length-(j+1)<(gT ts i).ks.length-j;have:=yF hb2;omega) (⟨(by have:=yF hb2;omega),wV (show j<(gT ts i).ks.length from (by have:=yF hb2;omega)) hq hN,xJ (show j<(gT ts i).ks.length from (by have:=yF hb2;omega)) hq hb11 hE,ap32_4,(fun n hn=>(List.mem_append.1 hn).elim (hM n) (fun hn=>by rw [List.mem_singleton.1 hn];exact (yR (ho.gK i j).k hq32).p))⟩) []
    intro J2
    rcases Bool.eq_false_or_eq_true (gK (gT ts i).ks j).pa.isNone with hb12 | hb12
    ·
     refine sS Tryz.f79 4 [1,6,10,11,23,24,25,30,31,32] [] (fun _=>[jp (nb ρ28 2) 43,.slice (gK (gT ts i).ks j).pa (nI (gK (gT ts i).ks j).ps).length (gK (gT ts i).ks j).pc,vz,vz]) (fun _=>[]) (cR [[],[1]]<|cX (qC (fun _ _ w hG=>yK (gK (gT ts i).ks j).pa (gK (gT ts i).ks j).pc (gK (gT ts i).ks j).ps hb12 w ((hG.fn.1.sub _ (fA (show i<ts.length from (by have:=yF hb2;omega)))).sub _ (nU (show j<(gT ts i).ks.length from (by have:=yF hb2;omega))))))<|jE [[]]) (fun _=>?_)
     refine aB (jM Tryz.f79 2 [1,6,10,11,23,24,25,30,31,32,40] [] [jp (nb ρ28 2) 44,.bool (gK (gT ts i).ks j).wd] [[],[1]] ?_)
     refine oC (gK (gT ts i).ks j).wd (fun hb13=>?_) (fun hb13=>?_)
     ·
      rw [hb13]
      refine rS Tryz.f79 6 [1,6,10,11,23,24,25,30,31,32] [1,1,0,1] (fun ρ=>let qa:=vs (nb ρ 4) (nI ([z.toNat])).length ((nI ([z.toNat])).length+aZ ρ 4);[vz,vi z,vu z.toNat,vs (nb ρ 3) 1 1,qa,qa]) (fun ρ=>[(3,(nw ρ 3 (cL #[vu z.toNat] 55))),(4,(nw ρ 4 (cL ((kI.r ([z.toNat])).toArray++Builtin.zeroCells (Value.cells (.int .u32 0)) (aZ ρ 4)) 55)))]) (cR [[],[]]<|cA (fun _=>(vu z.toNat)) (fun _=>jN (u32Z hb2 hb3))<|cR [[]]<|cX (qN (fun _ ζ=>(vs (ζ.headD 0) (nI ([z.toNat])).length ((nI ([z.toNat])).length+ζ.tail.headD 0))) (fun _ ζ=>(cL ((kI.r ([z.toNat])).toArray++Builtin.zeroCells (Value.cells (.int .u32 0)) (ζ.tail.headD 0)) 55)) (fun ρ _ _ hG=>appI_nil (ty:=67) (us:=[z.toNat]) Tryz.underlying67 (dA (sz:=1) (b:=4) (z:=(.int .u32 0)) (by kernel_rfl) rfl) (tJ Tryz.underlying67 (hG.kn (g:=nb ρ 3) (o:=(cL #[vu z.toNat] 55)) 26)) (Nat.le_of_ble_eq_true rfl) (Nat.le_of_ble_eq_true rfl) (by decide)))<|jE [[]]) (fun ρ36=>?_)
      refine aA ?_
      refine lK [(1,(vi z)),(6,(vs q N.length κ)),(10,(pt (nb ρ28 2))),(11,(vs (nb ρ36 4) (nI ([z.toNat])).length ((nI ([z.toNat])).length+aZ ρ36 4))),(23,(.slice a ts.length c)),(24,(vn ts.length)),(25,(vn i)),(30,(.slice (gT ts i).ka (gT ts i).ks.length (gT ts i).kc)),(31,(vn (gT ts i).ks.length)),(32,(vn j))] [(q,(cL C 64)),(nb ρ28 2,(cL (dO.row (gK (gT ts i).ks j)) 69)),(nb ρ36 4,(cL ((kI.r ([z.toNat])).toArray++Builtin.zeroCells (Value.cells (.int .u32 0)) (aZ ρ36 4)) 55))] ?_
      exact okE J2 (some ⟨nb ρ36 4,0,none⟩,(nI ([z.toNat])).length+aZ ρ36 4,[z.toNat]) (⟨(ix_b hb13 (hf0.pathN (show i<ts.length from (by have:=yF hb2;omega)) (show j<(gT ts i).ks.length from (by have:=yF hb2;omega)) hb12)),(fun x hx=>by rw [List.mem_singleton.1 hx];exact (z32n hb2 hb3))⟩) (fun w hS=>(hS.frozI (e:=55) (fr:=(0,0)) 2 (RowK.A.fresh (K:=kI) (z:=(.int .u32 0)) rfl ([z.toNat]) (aZ ρ36 4)) (by have:=jC (aV hb1) (show i<ts.length from (by have:=yF hb2;omega)) (show j<(gT ts i).ks.length from (by have:=yF hb2;omega));simp only [List.length_cons,List.length_nil];omega) []).weaken (fun w hF=>⟨hF.2.1,hF.2.2.1,hF.2.2.2.1,hF.1,trivial⟩))
     rw [hb13]
     refine aG (aA ?_)
     refine lK [(1,(vi z)),(6,(vs q N.length κ)),(10,(pt (nb ρ28 2))),(11,vz),(23,(.slice a ts.length c)),(24,(vn ts.length)),(25,(vn i)),(30,(.slice (gT ts i).ka (gT ts i).ks.length (gT ts i).kc)),(31,(vn (gT ts i).ks.length)),(32,(vn j)),(40,vF)] [(q,(cL C 64)),(nb ρ28 2,(cL (dO.row (gK (gT ts i).ks j)) 69))] ?_
     exact okE J2 (none,0,[]) (⟨(ix_a hb13 (hf0.pathN (show i<ts.length from (by have:=yF hb2;omega)) (show j<(gT ts i).ks.length from (by have:=yF hb2;omega)) hb12)),(by simp)⟩) (fun w hS=>(hS.frozN (k:=.u32) (a:=none) (c:=0) []).weaken (fun w hF=>⟨hF.2.1,hF.2.2.1,hF.2.2.2.1,hF.1,trivial⟩))
    refine iZ Tryz.f79 4 [1,6,10,11,23,24,25,30,31,32] [] (fun ρ=>let qa:=vs (nb ρ 2) (nI (gK (gT ts i).ks j).ps).length (aZ ρ 2);[jp (nb ρ28 2) 43,.slice (gK (gT ts i).ks j).pa (nI (gK (gT ts i).ks j).ps).length (gK (gT ts i).ks j).pc,qa,qa]) (fun ρ=>[(2,(nw ρ 2 (cL (oc ρ 2) 55)))]) (fun ρ=>[(2,fun w=>kI.A (oc ρ 2) (gK (gT ts i).ks j).ps (aZ ρ 2))]) (fun _=>(fun w=>bM w a c ts∧kJ w∧fD w∧True)) (fun ρ=>kI.A (oc ρ 2) (gK (gT ts i).ks j).ps (aZ ρ 2)) (fun _ _ hF hf=>⟨hF,hf 2⟩) (cR [[],[1]]<|cX (rM _ 58 (fun _=> #[.slice (gK (gT ts i).ks j).pa (nI (gK (gT ts i).ks j).ps).length (gK (gT ts i).ks j).pc]) (fun _ r=>(vs (r.n.headD 0) (nI (gK (gT ts i).ks j).ps).length (r.n.tail.headD 0))) (fun _ r=>(cL (uG r) 55)) (fun _ r=>kI.A (uG r) (gK (gT ts i).ks j).ps (r.n.tail.headD 0)) (fun _ _=>(by kernel_rfl)) (fun _ _=>(by kernel_rfl)) (fun _ _=>(by kernel_rfl)) (fun _ _=>(by kernel_rfl)) (fun _ _ w hG=>yP (gK (gT ts i).ks j).pa (gK (gT ts i).ks j).pc (gK (gT ts i).ks j).ps hb12 (jC (aV hb1) (show i<ts.length from (by have:=yF hb2;omega)) (show j<(gT ts i).ks.length from (by have:=yF hb2;omega))) w ((hG.fn.1.sub _ (fA (show i<ts.length from (by have:=yF hb2;omega)))).sub _ (nU (show j<(gT ts i).ks.length from (by have:=yF hb2;omega))))))<|jE [[]]) (fun ρ37 ap37_2=>?_)
    refine aB (jM Tryz.f79 2 [1,6,10,11,23,24,25,30,31,32,40] [] [jp (nb ρ28 2) 44,.bool (gK (gT ts i).ks j).wd] [[],[1]] ?_)
    refine oC (gK (gT ts i).ks j).wd (fun hb14=>?_) (fun hb14=>?_)
    ·
     rw [hb14]
     refine rSf Tryz.f79 6 [1,6,10,11,23,24,25,30,31,32] [1,1,1,0] (fun ρ=>let qa:=vs (nb ρ 4) (nI ((gK (gT ts i).ks j).ps++([z.toNat]))).length (aZ ρ 4);[vs (nb ρ37 2) (nI (gK (gT ts i).ks j).ps).length (aZ ρ37 2),vi z,vu z.toNat,vs (nb ρ 3) 1 1,qa,qa]) (fun ρ=>[(3,(nw ρ 3 (cL #[vu z.toNat] 55))),(4,(bD 2 (nb ρ 4) (cL (oc ρ 4) 55)))]) (fun ρ=>[(4,fun w=>kI.A (oc ρ 4) ((gK (gT ts i).ks j).ps++([z.toNat])) (aZ ρ 4))]) (fun _=>(fun w=>bM w a c ts∧kJ w∧fD w∧True)) (fun ρ=>kI.A (oc ρ 4) ((gK (gT ts i).ks j).ps++([z.toNat])) (aZ ρ 4)) (fun _ _ hF hf=>⟨hF,hf 4⟩) (cR [[],[]]<|cA (fun _=>(vu z.toNat)) (fun _=>jN (u32Z hb2 hb3))<|cR [[]]<|cX (qM 2 (fun ρ _ _ hG hg=>lT (ty:=67) (g:=nb ρ37 2) (ts:=(gK (gT ts i).ks j).ps) (us:=[z.toNat]) Tryz.underlying67 (dA (sz:=1) (b:=4) (z:=(.int .u32 0)) (by kernel_rfl) rfl) ap37_2 (tJ Tryz.underlying67 (hG.kn (g:=nb ρ 3) (o:=(cL #[vu z.toNat] 55)) 27)) (by have:=jC (aV hb1) (show i<ts.length from (by have:=yF hb2;omega)) (show j<(gT ts i).ks.length from (by have:=yF hb2;omega));simp only [List.length_cons,List.length_nil];omega) (by decide) hg))<|jE [[]]) (fun ρ39 ap39_4=>?_)
     refine aA ?_
     refine lK [(1,(vi z)),(6,(vs q N.length κ)),(10,(pt (nb ρ28 2))),(11,(vs (nb ρ39 4) (nI ((gK (gT ts i).ks j).ps++([z.toNat]))).length (aZ ρ39 4))),(23,(.slice a ts.length c)),(24,(vn ts.length)),(25,(vn i)),(30,(.slice (gT ts i).ka (gT ts i).ks.length (gT ts i).kc)),(31,(vn (gT ts i).ks.length)),(32,(vn j))] [(q,(cL C 64)),(nb ρ28 2,(cL (dO.row (gK (gT ts i).ks j)) 69)),(nb ρ39 4,(cL (oc ρ39 4) 55))] ?_
     exact okE J2 (some ⟨nb ρ39 4,0,none⟩,aZ ρ39 4,(gK (gT ts i).ks j).ps++[z.toNat]) (⟨ix_d hb14,(fun x hx=>(List.mem_append.1 hx).elim ((ho.gK i j).ps x) (fun hx=>by rw [List.mem_singleton.1 hx];exact (z32n hb2 hb3)))⟩) (fun w hS=>(hS.frozI (e:=55) (fr:=(0,0)) 2 ap39_4 (by have:=jC (aV hb1) (show i<ts.length from (by have:=yF hb2;omega)) (show j<(gT ts i).ks.length from (by have:=yF hb2;omega));simp only [List.length_append,List.length_cons,List.length_nil];omega) []).weaken (fun w hF=>⟨hF.2.1,hF.2.2.1,hF.2.2.2.1,hF.1,trivial⟩))
    rw [hb14]
    refine aG (aA ?_)
    refine lK [(1,(vi z)),(6,(vs q N.length κ)),(10,(pt (nb ρ28 2))),(11,(vs (nb ρ37 2) (nI (gK (gT ts i).ks j).ps).length (aZ ρ37 2))),(23,(.slice a ts.length c)),(24,(vn ts.length)),(25,(vn i)),(30,(.slice (gT ts i).ka (gT ts i).ks.length (gT ts i).kc)),(31,(vn (gT ts i).ks.length)),(32,(vn j)),(40,vF)] [(q,(cL C 64)),(nb ρ28 2,(cL (dO.row (gK (gT ts i).ks j)) 69)),(nb ρ37 2,(cL (oc ρ37 2) 55))] ?_
    exact okE J2 (some ⟨nb ρ37 2,0,none⟩,aZ ρ37 2,(gK (gT ts i).ks j).ps) (⟨ix_c hb14,(ho.gK i j).ps⟩) (fun w hS=>(hS.frozI (e:=55) (fr:=(0,0)) 2 ap37_2 (by have:=jC (aV hb1) (show i<ts.length from (by have:=yF hb2;omega)) (show j<(gT ts i).ks.length from (by have:=yF hb2;omega));omega) []).weaken (fun w hF=>⟨hF.2.1,hF.2.2.1,hF.2.2.2.1,hF.1,trivial⟩))
   rw [hb10]
   have:=yF hb10
   refine bF (aN (aN (aT (aJ (aA ?_)))))
   refine rS Tryz.f79 2 [1,6,23,24,25] [] (fun _=>[vn (i+1),vn (i+1)]) (fun _=>[]) (jW (fun ρ=>(((i:Nat):Int)+1)) (fun _=>(i+1)) (fun _=>(aW i 1 (by have:=yF hb2;omega)))<|jE [[]]) (fun _=>?_)
   exact mN (Sum.inr (i+1,q,N,C,κ)) (by show ts.length-(i+1)<ts.length-i;have:=yF hb2;omega) (⟨(by have:=yF hb2;omega),kn_out (by have:=yF hb2;omega) hN,ke_out (by have:=yF hb2;omega) hE,hA,hM⟩) []
  rw [hb4]
  have:=ho.klen hf0 i
  refine bF (aN (aN (aT (aA (jJ Tryz.f79 3 [4,5] [vz,vz,vi 0] (aF (mD [(4,vz),(5,(vi 0))] [] ?_)))))))
  exact mR (v:=(.tuple #[vz,vi 0])) (fun _ hS=>(by rw [(ky_ok (aV hb1) hb2 hb3 (by have:=yF hb2;have:=yF hb4;omega) hE0 hN0).1,(ky_ok (aV hb1) hb2 hb3 (by have:=yF hb2;have:=yF hb4;omega) hE0 hN0).2];exact ⟨none,0,rfl,hS.bel,dB (fun _=>Us.nil)⟩))
 rintro ⟨hi,hN0,hE0,hA,hM⟩
 change Ok Tryz.prog _ _ 64 [(1,(vi z)),(6,(vs q N.length κ)),(23,(.slice a ts.length c)),(24,(vn ts.length)),(25,(vn i))] _ [(q,(cL C 64))] (fun w=>bM w a c ts∧kJ w∧fD w∧True)
 refine jJ Tryz.f79 1 [1,6,23,24,25,26] [.bool (decide (((i:Nat):Int)<((ts.length:Nat):Int)))] (aB ?_)
 refine oC (decide (((i:Nat):Int)<((ts.length:Nat):Int))) (fun hb15=>?_) (fun hb15=>?_)
 ·
  rw [hb15]
  have:=yT hb15
  have:=ho.klen hf0 i
  refine aG (aA (aB (aI ?_)))
  refine sS Tryz.f79 4 [1,6,8,23,24,25] [] (fun ρ=>[.pointer (fK a (i*36)),.agg (bW.row (gT ts i)),pt (nb ρ 2),undef]) (fun ρ=>[(2,(nw ρ 2 (cL (iC 0 0 0 0 vz) 60))),(3,(bD 17 (nb ρ 2) (cL (bW.row (gT ts i)) 60)))]) (cX (qF (fun _ _ _ hG=>bM.idx (k:=.i64) Tryz.underlying24 Tryz.sizeOf60 hG.fn.1 rfl (show ((i:Nat):Int)=((i:Nat):Int) from rfl) (show i<ts.length from (by have:=yF hb2;omega))))<|cX (qF (fun _ _ _ hG=>bM.ldA (i:=i) Tryz.isAgg60 Tryz.sizeOf60 hG.fn.1 (show i<ts.length from (by have:=yF hb2;omega))))<|jE [[],[17]]) (fun ρ43=>?_)
  refine jM Tryz.f79 4 [1,6,23,24,25,30,31,32] [1,0] [jp (nb ρ43 2) 35,.slice (gT ts i).ka (gT ts i).ks.length (gT ts i).kc,vn (gT ts i).ks.length,vi 0] [[],[1],[],[]] (aI ?_)
  refine oL (σ:=(Nat × Nat × (List Nat) × (Array Value) × Nat)) (fun s=>match s with |  ⟨j,q,N,_,κ⟩=>[(1,(vi z)),(6,(vs q N.length κ)),(23,(.slice a ts.length c)),(24,(vn ts.length)),(25,(vn i)),(30,(.slice (gT ts i).ka (gT ts i).ks.length (gT ts i).kc)),(31,(vn (gT ts i).ks.length)),(32,(vn j))]) (fun s=>match s with |  ⟨_,q,_,C,_⟩=>[(q,(cL C 64))]) (fun s=>match s with |  ⟨j,_,_,_,_⟩=>(gT ts i).ks.length-j)
    (fun s=>match s with |  ⟨j,_,N,C,κ⟩=>(j≤(gT ts i).ks.length)∧(N++xE z.toNat ((gT ts i).ks.drop j++aK (ts.drop (i+1)))=xE z.toNat (aK ts))∧(uU z.toNat ((gT ts i).ks.drop j++aK (ts.drop (i+1)))=uU z.toNat (aK ts))∧(kU.A C N κ)∧(∀ n∈N,n<M)) ((0,q,N,C,κ)) (⟨Nat.zero_le _,kn_in (show i<ts.length from (by have:=yF hb2;omega)) hN0,ke_in (show i<ts.length from (by have:=yF hb2;omega)) hE0,hA,hM⟩) [] ?_
  rintro ⟨j,q,N,C,κ⟩
  rintro ⟨hj,hN,hE,hA,hM⟩
  change Ok Tryz.prog _ _ 64 [(1,(vi z)),(6,(vs q N.length κ)),(23,(.slice a ts.length c)),(24,(vn ts.length)),(25,(vn i)),(30,(.slice (gT ts i).ka (gT ts i).ks.length (gT ts i).kc)),(31,(vn (gT ts i).ks.length)),(32,(vn j))] _ [(q,(cL C 64))] (fun w=>bM w a c ts∧kJ w∧fD w∧True)
  refine jJ Tryz.f79 1 [1,6,23,24,25,30,31,32,33] [.bool (decide (((j:Nat):Int)<(((gT ts i).ks.length:Nat):Int)))] (aB ?_)
  refine oC (decide (((j:Nat):Int)<(((gT ts i).ks.length:Nat):Int))) (fun hb16=>?_) (fun hb16=>?_)
  ·
   rw [hb16]
   have:=yT hb16
   refine aG (aA (aB (aI ?_)))
   refine sS Tryz.f79 4 [1,6,10,23,24,25,30,31,32] [] (fun ρ=>[.pointer (fK (gT ts i).ka (j*45)),.agg (dO.row (gK (gT ts i).ks j)),pt (nb ρ 2),undef]) (fun ρ=>[(2,(nw ρ 2 (cL (kM 0 0 0 0 0 0 vz vF) 69))),(3,(bD 17 (nb ρ 2) (cL (dO.row (gK (gT ts i).ks j)) 69)))]) (cX (qF (fun _ _ _ hG=>oG.idx (k:=.i64) Tryz.underlying58 Tryz.sizeOf69 (hG.fn.1.sub _ (fA (show i<ts.length from (by have:=yF hb2;omega)))) rfl (show ((j:Nat):Int)=((j:Nat):Int) from rfl) (show j<(gT ts i).ks.length from (by have:=yF hb2;omega))))<|cX (qF (fun _ _ _ hG=>oG.ldA (i:=j) Tryz.isAgg69 Tryz.sizeOf69 (hG.fn.1.sub _ (fA (show i<ts.length from (by have:=yF hb2;omega)))) (show j<(gT ts i).ks.length from (by have:=yF hb2;omega))))<|jE [[],[17]]) (fun ρ46=>?_)
   refine okJ2 (σ:=(Option Addr) × Nat × (List Nat)) (fun ⟨pa,pc,pq⟩=>[(1,(vi z)),(6,(vs q N.length κ)),(10,(pt (nb ρ46 2))),(11,(.slice pa (nI pq).length pc)),(23,(.slice a ts.length c)),(24,(vn ts.length)),(25,(vn i)),(30,(.slice (gT ts i).ka (gT ts i).ks.length (gT ts i).kc)),(31,(vn (gT ts i).ks.length)),(32,(vn j))]) (fun ⟨_,_,_⟩=>[(q,(cL C 64)),(nb ρ46 2,(cL (dO.row (gK (gT ts i).ks j)) 69))]) (fun ⟨pa,pc,pq⟩=>(fun w=>bM w a c ts∧kJ w∧fD w∧Is w .u32 pa pc (nI pq)∧True)) (fun ⟨_,_,pq⟩=>((gK (gT ts i).ks j).ix z.toNat=pq)∧(∀ x∈pq,x<4294967296)) ?_ ?_
   ·
    rintro ⟨pa,pc,pq⟩ ⟨hq,hq32⟩
    change Ok Tryz.prog _ _ 64 [(1,(vi z)),(6,(vs q N.length κ)),(10,(pt (nb ρ46 2))),(11,(.slice pa (nI pq).length pc)),(23,(.slice a ts.length c)),(24,(vn ts.length)),(25,(vn i)),(30,(.slice (gT ts i).ka (gT ts i).ks.length (gT ts i).kc)),(31,(vn (gT ts i).ks.length)),(32,(vn j))] _ [(q,(cL C 64)),(nb ρ46 2,(cL (dO.row (gK (gT ts i).ks j)) 69))] (fun w=>bM w a c ts∧kJ w∧fD w∧Is w .u32 pa pc (nI pq)∧True)
    refine sS Tryz.f79 10 [1,6,12,13,23,24,25,30,31,32] [1,0,1] (fun ρ=>let qa:=vi (nM (gK (gT ts i).ks j).k pq);let qb:Value:=.agg (kY (iQ (gK (gT ts i).ks j).k pq));[pt (nb ρ46 2),.agg (kY (gK (gT ts i).ks j).k),.slice pa (nI pq).length pc,.tuple #[qb,qa],.tuple #[qb,qa],qb,qa,pt (nb ρ 7),undef,qa]) (fun ρ=>[(7,(nw ρ 7 (cL (kC 0 0 0 0 0 0) 66))),(8,(bD 58 (nb ρ 7) (cL (kY (iQ (gK (gT ts i).ks j).k pq)) 66)))]) (cR [[],[1],[]]<|cX (qC (fun _ _ w hG=>yH (gK (gT ts i).ks j).k pa pc pq (ho.gK i j).k hq32 w hG.fn.2.2.2.1 hG.fn.2.1 hG.fn.2.2.1))<|jE [[],[],[],[],[58],[]]) (fun ρ47=>?_)
    refine aB (jJ Tryz.f79 2 [1,6,12,13,23,24,25,30,31,32,54] [vi (nM (gK (gT ts i).ks j).k pq),.bool ((nM (gK (gT ts i).ks j).k pq) != 0)] ?_)
    refine oC ((nM (gK (gT ts i).ks j).k pq) != 0) (fun hb17=>?_) (fun hb17=>?_)
    ·
     rw [hb17]
     refine jJ Tryz.f79 3 [1,4,5,6,12,23,24,25,30,31,32] (let qa:=vi (nM (gK (gT ts i).ks j).k pq);[qa,vz,qa]) (aF (aC (aP (aC (aC (aP (aP (aC (aC (aP (aC (mD [(1,(vi z)),(4,vz),(5,(vi (nM (gK (gT ts i).ks j).k pq))),(6,(vs q N.length κ)),(12,(pt (nb ρ47 7))),(23,(.slice a ts.length c)),(24,(vn ts.length)),(25,(vn i)),(30,(.slice (gT ts i).ka (gT ts i).ks.length (gT ts i).kc)),(31,(vn (gT ts i).ks.length)),(32,(vn j))] [(q,(cL C 64)),(nb ρ47 7,(cL (kY (iQ (gK (gT ts i).ks j).k pq)) 66))] ?_))))))))))))
     exact mR (v:=(.tuple #[vz,vi (nM (gK (gT ts i).ks j).k pq)])) (fun _ hS=>(by rw [(pI (aV hb1) hb2 hb3 (l7 (show j<(gT ts i).ks.length from (by have:=yF hb2;omega)) hq hb17 hE) hb17).1,(pI (aV hb1) hb2 hb3 (l7 (show j<(gT ts i).ks.length from (by have:=yF hb2;omega)) hq hb17 hE) hb17).2];exact ⟨none,0,rfl,hS.bel,dB (fun _=>Us.nil)⟩))
    rw [hb17]
    refine aG (aA ?_)
    refine rSf Tryz.f79 6 [1,6,23,24,25,30,31,32] [1,0,0] (fun ρ=>let qa:=vs (nb ρ 4) (N++([(iQ (gK (gT ts i).ks j).k pq).p])).length (aZ ρ 4);[vs q N.length κ,jp (nb ρ47 7) 4,U (iQ (gK (gT ts i).ks j).k pq).p,vs (nb ρ 3) 1 1,qa,qa]) (fun ρ=>[(3,(nw ρ 3 (cL (cU (iQ (gK (gT ts i).ks j).k pq).p) 64))),(4,(bD 0 (nb ρ 4) (cL (oc ρ 4) 64)))]) (fun ρ=>[(4,fun w=>kU.A (oc ρ 4) (N++([(iQ (gK (gT ts i).ks j).k pq).p])) (aZ ρ 4))]) (fun _=>(fun w=>bM w a c ts∧kJ w∧fD w∧Is w .u32 pa pc (nI pq)∧True)) (fun ρ=>kU.A (oc ρ 4) (N++([(iQ (gK (gT ts i).ks j).k pq).p])) (aZ ρ 4)) (fun _ _ hF hf=>⟨hF,hf 4⟩) (cR [[],[],[1],[]]<|cX (qM 0 (fun ρ _ _ hG hg=>wB (K:=kU) (ty:=80) (g:=q) (ts:=N) (us:=[(iQ (gK (gT ts i).ks j).k pq).p]) Tryz.underlying80 (dA (sz:=4) (b:=32) (z:=(U 0)) (by kernel_rfl) rfl) hA (src_u1 Tryz.underlying80 (hG.kn (g:=nb ρ 3) (o:=(cL (cU (iQ (gK (gT ts i).ks j).k pq).p) 64)) 26)) (by have:=kn_len (aV hb1) hN;have:=zN (R:=aK (ts.drop (i+1))) (show j<(gT ts i).ks.length from (by have:=yF hb2;omega));simp only [List.length_cons,List.length_nil];omega) (by decide) hg))<|jE [[]]) (fun ρ50 ap50_4=>?_)
    refine aJ (aA ?_)
    refine rS Tryz.f79 2 [1,6,23,24,25,30,31,32] [] (fun _=>[vn (j+1),vn (j+1)]) (fun _=>[]) (jW (fun ρ=>(((j:Nat):Int)+1)) (fun _=>(j+1)) (fun _=>(aW j 1 (by have:=yF hb2;omega)))<|jE [[]]) (fun _=>?_)
    refine nD (fun w=>bM w a c ts∧kJ w∧fD w∧True) (fun w hF=>⟨hF.1,hF.2.1,hF.2.2.1,trivial⟩) ?_
    exact mN ((j+1,nb ρ50 4,N++([(iQ (gK (gT ts i).ks j).k pq).p]),oc ρ50 4,aZ ρ50 4)) (by show (gT ts i).ks.length-(j+1)<(gT ts i).ks.length-j;have:=yF hb2;omega) (⟨(by have:=yF hb2;omega),wV (show j<(gT ts i).ks.length from (by have:=yF hb2;omega)) hq hN,xJ (show j<(gT ts i).ks.length from (by have:=yF hb2;omega)) hq hb17 hE,ap50_4,(fun n hn=>(List.mem_append.1 hn).elim (hM n) (fun hn=>by rw [List.mem_singleton.1 hn];exact (yR (ho.gK i j).k hq32).p))⟩) []
   intro J3
   rcases Bool.eq_false_or_eq_true (gK (gT ts i).ks j).pa.isNone with hb18 | hb18
   ·
    refine sS Tryz.f79 4 [1,6,10,11,23,24,25,30,31,32] [] (fun _=>[jp (nb ρ46 2) 43,.slice (gK (gT ts i).ks j).pa (nI (gK (gT ts i).ks j).ps).length (gK (gT ts i).ks j).pc,vz,vz]) (fun _=>[]) (cR [[],[1]]<|cX (qC (fun _ _ w hG=>yK (gK (gT ts i).ks j).pa (gK (gT ts i).ks j).pc (gK (gT ts i).ks j).ps hb18 w ((hG.fn.1.sub _ (fA (show i<ts.length from (by have:=yF hb2;omega)))).sub _ (nU (show j<(gT ts i).ks.length from (by have:=yF hb2;omega))))))<|jE [[]]) (fun _=>?_)
    refine aB (jM Tryz.f79 2 [1,6,10,11,23,24,25,30,31,32,40] [] [jp (nb ρ46 2) 44,.bool (gK (gT ts i).ks j).wd] [[],[1]] ?_)
    refine oC (gK (gT ts i).ks j).wd (fun hb19=>?_) (fun hb19=>?_)
    ·
     rw [hb19]
     refine rS Tryz.f79 6 [1,6,10,11,23,24,25,30,31,32] [1,1,0,1] (fun ρ=>let qa:=vs (nb ρ 4) (nI ([z.toNat])).length ((nI ([z.toNat])).length+aZ ρ 4);[vz,vi z,vu z.toNat,vs (nb ρ 3) 1 1,qa,qa]) (fun ρ=>[(3,(nw ρ 3 (cL #[vu z.toNat] 55))),(4,(nw ρ 4 (cL ((kI.r ([z.toNat])).toArray++Builtin.zeroCells (Value.cells (.int .u32 0)) (aZ ρ 4)) 55)))]) (cR [[],[]]<|cA (fun _=>(vu z.toNat)) (fun _=>jN (u32Z hb2 hb3))<|cR [[]]<|cX (qN (fun _ ζ=>(vs (ζ.headD 0) (nI ([z.toNat])).length ((nI ([z.toNat])).length+ζ.tail.headD 0))) (fun _ ζ=>(cL ((kI.r ([z.toNat])).toArray++Builtin.zeroCells (Value.cells (.int .u32 0)) (ζ.tail.headD 0)) 55)) (fun ρ _ _ hG=>appI_nil (ty:=67) (us:=[z.toNat]) Tryz.underlying67 (dA (sz:=1) (b:=4) (z:=(.int .u32 0)) (by kernel_rfl) rfl) (tJ Tryz.underlying67 (hG.kn (g:=nb ρ 3) (o:=(cL #[vu z.toNat] 55)) 26)) (Nat.le_of_ble_eq_true rfl) (Nat.le_of_ble_eq_true rfl) (by decide)))<|jE [[]]) (fun ρ54=>?_)
     refine aA ?_
     refine lK [(1,(vi z)),(6,(vs q N.length κ)),(10,(pt (nb ρ46 2))),(11,(vs (nb ρ54 4) (nI ([z.toNat])).length ((nI ([z.toNat])).length+aZ ρ54 4))),(23,(.slice a ts.length c)),(24,(vn ts.length)),(25,(vn i)),(30,(.slice (gT ts i).ka (gT ts i).ks.length (gT ts i).kc)),(31,(vn (gT ts i).ks.length)),(32,(vn j))] [(q,(cL C 64)),(nb ρ46 2,(cL (dO.row (gK (gT ts i).ks j)) 69)),(nb ρ54 4,(cL ((kI.r ([z.toNat])).toArray++Builtin.zeroCells (Value.cells (.int .u32 0)) (aZ ρ54 4)) 55))] ?_
     exact okE J3 (some ⟨nb ρ54 4,0,none⟩,(nI ([z.toNat])).length+aZ ρ54 4,[z.toNat]) (⟨(ix_b hb19 (hf0.pathN (show i<ts.length from (by have:=yF hb2;omega)) (show j<(gT ts i).ks.length from (by have:=yF hb2;omega)) hb18)),(fun x hx=>by rw [List.mem_singleton.1 hx];exact (z32n hb2 hb3))⟩) (fun w hS=>(hS.frozI (e:=55) (fr:=(0,0)) 2 (RowK.A.fresh (K:=kI) (z:=(.int .u32 0)) rfl ([z.toNat]) (aZ ρ54 4)) (by have:=jC (aV hb1) (show i<ts.length from (by have:=yF hb2;omega)) (show j<(gT ts i).ks.length from (by have:=yF hb2;omega));simp only [List.length_cons,List.length_nil];omega) []).weaken (fun w hF=>⟨hF.2.1,hF.2.2.1,hF.2.2.2.1,hF.1,trivial⟩))
    rw [hb19]
    refine aG (aA ?_)
    refine lK [(1,(vi z)),(6,(vs q N.length κ)),(10,(pt (nb ρ46 2))),(11,vz),(23,(.slice a ts.length c)),(24,(vn ts.length)),(25,(vn i)),(30,(.slice (gT ts i).ka (gT ts i).ks.length (gT ts i).kc)),(31,(vn (gT ts i).ks.length)),(32,(vn j)),(40,vF)] [(q,(cL C 64)),(nb ρ46 2,(cL (dO.row (gK (gT ts i).ks j)) 69))] ?_
    exact okE J3 (none,0,[]) (⟨(ix_a hb19 (hf0.pathN (show i<ts.length from (by have:=yF hb2;omega)) (show j<(gT ts i).ks.length from (by have:=yF hb2;omega)) hb18)),(by simp)⟩) (fun w hS=>(hS.frozN (k:=.u32) (a:=none) (c:=0) []).weaken (fun w hF=>⟨hF.2.1,hF.2.2.1,hF.2.2.2.1,hF.1,trivial⟩))
   refine iZ Tryz.f79 4 [1,6,10,11,23,24,25,30,31,32] [] (fun ρ=>let qa:=vs (nb ρ 2) (nI (gK (gT ts i).ks j).ps).length (aZ ρ 2);[jp (nb ρ46 2) 43,.slice (gK (gT ts i).ks j).pa (nI (gK (gT ts i).ks j).ps).length (gK (gT ts i).ks j).pc,qa,qa]) (fun ρ=>[(2,(nw ρ 2 (cL (oc ρ 2) 55)))]) (fun ρ=>[(2,fun w=>kI.A (oc ρ 2) (gK (gT ts i).ks j).ps (aZ ρ 2))]) (fun _=>(fun w=>bM w a c ts∧kJ w∧fD w∧True)) (fun ρ=>kI.A (oc ρ 2) (gK (gT ts i).ks j).ps (aZ ρ 2)) (fun _ _ hF hf=>⟨hF,hf 2⟩) (cR [[],[1]]<|cX (rM _ 58 (fun _=> #[.slice (gK (gT ts i).ks j).pa (nI (gK (gT ts i).ks j).ps).length (gK (gT ts i).ks j).pc]) (fun _ r=>(vs (r.n.headD 0) (nI (gK (gT ts i).ks j).ps).length (r.n.tail.headD 0))) (fun _ r=>(cL (uG r) 55)) (fun _ r=>kI.A (uG r) (gK (gT ts i).ks j).ps (r.n.tail.headD 0)) (fun _ _=>(by kernel_rfl)) (fun _ _=>(by kernel_rfl)) (fun _ _=>(by kernel_rfl)) (fun _ _=>(by kernel_rfl)) (fun _ _ w hG=>yP (gK (gT ts i).ks j).pa (gK (gT ts i).ks j).pc (gK (gT ts i).ks j).ps hb18 (jC (aV hb1) (show i<ts.length from (by have:=yF hb2;omega)) (show j<(gT ts i).ks.length from (by have:=yF hb2;omega))) w ((hG.fn.1.sub _ (fA (show i<ts.length from (by have:=yF hb2;omega)))).sub _ (nU (show j<(gT ts i).ks.length from (by have:=yF hb2;omega))))))<|jE [[]]) (fun ρ55 ap55_2=>?_)
   refine aB (jM Tryz.f79 2 [1,6,10,11,23,24,25,30,31,32,40] [] [jp (nb ρ46 2) 44,.bool (gK (gT ts i).ks j).wd] [[],[1]] ?_)
   refine oC (gK (gT ts i).ks j).wd (fun hb20=>?_) (fun hb20=>?_)
   ·
    rw [hb20]
    refine rSf Tryz.f79 6 [1,6,10,11,23,24,25,30,31,32] [1,1,1,0] (fun ρ=>let qa:=vs (nb ρ 4) (nI ((gK (gT ts i).ks j).ps++([z.toNat]))).length (aZ ρ 4);[vs (nb ρ55 2) (nI (gK (gT ts i).ks j).ps).length (aZ ρ55 2),vi z,vu z.toNat,vs (nb ρ 3) 1 1,qa,qa]) (fun ρ=>[(3,(nw ρ 3 (cL #[vu z.toNat] 55))),(4,(bD 2 (nb ρ 4) (cL (oc ρ 4) 55)))]) (fun ρ=>[(4,fun w=>kI.A (oc ρ 4) ((gK (gT ts i).ks j).ps++([z.toNat])) (aZ ρ 4))]) (fun _=>(fun w=>bM w a c ts∧kJ w∧fD w∧True)) (fun ρ=>kI.A (oc ρ 4) ((gK (gT ts i).ks j).ps++([z.toNat])) (aZ ρ 4)) (fun _ _ hF hf=>⟨hF,hf 4⟩) (cR [[],[]]<|cA (fun _=>(vu z.toNat)) (fun _=>jN (u32Z hb2 hb3))<|cR [[]]<|cX (qM 2 (fun ρ _ _ hG hg=>lT (ty:=67) (g:=nb ρ55 2) (ts:=(gK (gT ts i).ks j).ps) (us:=[z.toNat]) Tryz.underlying67 (dA (sz:=1) (b:=4) (z:=(.int .u32 0)) (by kernel_rfl) rfl) ap55_2 (tJ Tryz.underlying67 (hG.kn (g:=nb ρ 3) (o:=(cL #[vu z.toNat] 55)) 27)) (by have:=jC (aV hb1) (show i<ts.length from (by have:=yF hb2;omega)) (show j<(gT ts i).ks.length from (by have:=yF hb2;omega));simp only [List.length_cons,List.length_nil];omega) (by decide) hg))<|jE [[]]) (fun ρ57 ap57_4=>?_)
    refine aA ?_
    refine lK [(1,(vi z)),(6,(vs q N.length κ)),(10,(pt (nb ρ46 2))),(11,(vs (nb ρ57 4) (nI ((gK (gT ts i).ks j).ps++([z.toNat]))).length (aZ ρ57 4))),(23,(.slice a ts.length c)),(24,(vn ts.length)),(25,(vn i)),(30,(.slice (gT ts i).ka (gT ts i).ks.length (gT ts i).kc)),(31,(vn (gT ts i).ks.length)),(32,(vn j))] [(q,(cL C 64)),(nb ρ46 2,(cL (dO.row (gK (gT ts i).ks j)) 69)),(nb ρ57 4,(cL (oc ρ57 4) 55))] ?_
    exact okE J3 (some ⟨nb ρ57 4,0,none⟩,aZ ρ57 4,(gK (gT ts i).ks j).ps++[z.toNat]) (⟨ix_d hb20,(fun x hx=>(List.mem_append.1 hx).elim ((ho.gK i j).ps x) (fun hx=>by rw [List.mem_singleton.1 hx];exact (z32n hb2 hb3)))⟩) (fun w hS=>(hS.frozI (e:=55) (fr:=(0,0)) 2 ap57_4 (by have:=jC (aV hb1) (show i<ts.length from (by have:=yF hb2;omega)) (show j<(gT ts i).ks.length from (by have:=yF hb2;omega));simp only [List.length_append,List.length_cons,List.length_nil];omega) []).weaken (fun w hF=>⟨hF.2.1,hF.2.2.1,hF.2.2.2.1,hF.1,trivial⟩))
   rw [hb20]
   refine aG (aA ?_)
   refine lK [(1,(vi z)),(6,(vs q N.length κ)),(10,(pt (nb ρ46 2))),(11,(vs (nb ρ55 2) (nI (gK (gT ts i).ks j).ps).length (aZ ρ55 2))),(23,(.slice a ts.length c)),(24,(vn ts.length)),(25,(vn i)),(30,(.slice (gT ts i).ka (gT ts i).ks.length (gT ts i).kc)),(31,(vn (gT ts i).ks.length)),(32,(vn j)),(40,vF)] [(q,(cL C 64)),(nb ρ46 2,(cL (dO.row (gK (gT ts i).ks j)) 69)),(nb ρ55 2,(cL (oc ρ55 2) 55))] ?_
   exact okE J3 (some ⟨nb ρ55 2,0,none⟩,aZ ρ55 2,(gK (gT ts i).ks j).ps) (⟨ix_c hb20,(ho.gK i j).ps⟩) (fun w hS=>(hS.frozI (e:=55) (fr:=(0,0)) 2 ap55_2 (by have:=jC (aV hb1) (show i<ts.length from (by have:=yF hb2;omega)) (show j<(gT ts i).ks.length from (by have:=yF hb2;omega));omega) []).weaken (fun w hF=>⟨hF.2.1,hF.2.2.1,hF.2.2.2.1,hF.1,trivial⟩))
  rw [hb16]
  have:=yF hb16
  refine bF (aN (aN (aT (aJ (aA ?_)))))
  refine rS Tryz.f79 2 [1,6,23,24,25] [] (fun _=>[vn (i+1),vn (i+1)]) (fun _=>[]) (jW (fun ρ=>(((i:Nat):Int)+1)) (fun _=>(i+1)) (fun _=>(aW i 1 (by have:=yF hb2;omega)))<|jE [[]]) (fun _=>?_)
  exact mN (Sum.inr (i+1,q,N,C,κ)) (by show ts.length-(i+1)<ts.length-i;have:=yF hb2;omega) (⟨(by have:=yF hb2;omega),kn_out (by have:=yF hb2;omega) hN,ke_out (by have:=yF hb2;omega) hE,hA,hM⟩) []
 rw [hb15]
 have:=ho.klen hf0 i
 refine bF (aN (aN (aT (aA (jJ Tryz.f79 3 [4,5] [vs q N.length κ,vs q N.length κ,vi 0] (aF (mD [(4,(vs q N.length κ)),(5,(vi 0))] [(q,(cL C 64))] ?_)))))))
 exact mR (v:=(.tuple #[vs q N.length κ,vi 0])) (fun _ hS=>(by rw [(ky_ok (aV hb1) hb2 hb3 (by have:=yF hb2;have:=yF hb15;omega) hE0 hN0).1,(ky_ok (aV hb1) hb2 hb3 (by have:=yF hb2;have:=yF hb15;omega) hE0 hN0).2];exact ⟨some ⟨q,0,none⟩,κ,rfl,hS.bel,Us.new (hS.newb (.head _)) hA (by have:=kn_len (aV hb1) hN0;omega) hM⟩))
theorem dexpand_any (a:Option Addr) (c:Nat) (ts:List bW) (z:Int) (h2:∀ t∈ts,t.kd=2→t.ks.length=2) (w0:World) (hf0:bM w0 a c ts) (hf1:kJ w0) (hf2:fD w0):Calls Tryz.prog 55 #[.slice a ts.length c,vi z] w0 (fun ε w'=>∃ α κ,ε=.returned (.tuple #[.slice α (wG ts z).length κ,vi (exE ts z)])∧jG w0 w'∧Fs w0 w' α κ (wG ts z)):=by
 refine Calls.of_ok (n:=33) (F:=(fun w=>bM w a c ts∧kJ w∧fD w∧True)) Tryz.func55 rfl rfl rfl (by simp) (hf0.pers0.and (hf1.pers0.and (hf2.pers0.and cO))) ?_
 refine jJ Tryz.f55 2 [0,1,4,5] [vz,vi 0] ?_
 refine iZ Tryz.f55 8 [0,4,5,6,7] [] (fun ρ=>let qa:Value:=.slice (oa ρ 2) (gV ts z).length (nb ρ 2);[.slice a ts.length c,vi z,.tuple #[qa,vi (kZ ts z)],.tuple #[qa,vi (kZ ts z)],qa,vi (kZ ts z),qa,vi (kZ ts z)]) (fun _=>[]) (fun ρ=>[(2,fun w=>Us w (oa ρ 2) (nb ρ 2) (gV ts z))]) (fun ρ=>(fun w=>bM w a c ts∧kJ w∧fD w∧Us w (oa ρ 2) (nb ρ 2) (gV ts z)∧True)) (fun _=>True) (fun _ _ hF hf=>⟨⟨hF.1,hF.2.1,hF.2.2.1,hf 2,trivial⟩,trivial⟩) (cR [[],[]]<|cX (qV (fun _ _ w hG=>dkeys_any a c ts z w hG.fn.1 hG.fn.2.1 hG.fn.2.2.1))<|jE [[],[],[],[],[]]) (fun ρ2 _=>?_)
 refine aB (jJ Tryz.f55 2 [0,4,5,6,7,17] [vi (kZ ts z),.bool ((kZ ts z) != 0)] ?_)
 refine oC ((kZ ts z) != 0) (fun hb1=>?_) (fun hb1=>?_)
 ·
  rw [hb1]
  refine jJ Tryz.f55 3 [0,4,5,6,7] [vi (kZ ts z),vz,vi (kZ ts z)] (aF (aC (mD [(0,(.slice a ts.length c)),(4,vz),(5,(vi (kZ ts z))),(6,(.slice (oa ρ2 2) (gV ts z).length (nb ρ2 2))),(7,(vi (kZ ts z)))] [] ?_)))
  exact mR (v:=(.tuple #[vz,vi (kZ ts z)])) (fun _ hS=>⟨none,0,congrArg Ending.returned (by rw [(ex_err hb1).1,(ex_err hb1).2]<;>rfl),hS.bel,dU (ex_err hb1).2.symm Fs.nil⟩)
 rw [hb1]
 refine aG (aA ?_)
 refine sS Tryz.f55 5 [4,5,7,8] [] (fun ρ=>let qa:Value:=.slice (oa ρ2 2) (gV ts z).length (nb ρ2 2);[.slice a ts.length c,qa,.agg #[.slice a ts.length c,qa],pt (nb ρ 3),undef]) (fun ρ=>[(3,(nw ρ 3 (cL #[vz,vz] 113))),(4,(bD 24 (nb ρ 3) (cL #[.slice a ts.length c,.slice (oa ρ2 2) (gV ts z).length (nb ρ2 2)] 113)))]) (jE [[],[],[],[],[24]]) (fun ρ5=>?_)
 refine iZ Tryz.f55 6 [4,5,7,9] [0] (fun ρ=>let qa:Value:=.slice (oa ρ 0) (xP ts z).length (nb ρ 0);[.tuple #[qa,vi 0],.tuple #[qa,vi 0],qa,vi 0,qa,vi 0]) (fun _=>[(0,(bD 0 (nb ρ5 3) (cL #[.slice (nxS (Mk.mk a c ts (oa ρ2 2) (nb ρ2 2) (gV ts z))).ta (nxS (Mk.mk a c ts (oa ρ2 2) (nb ρ2 2) (gV ts z))).ts.length (nxS (Mk.mk a c ts (oa ρ2 2) (nb ρ2 2) (gV ts z))).tc,.slice (nxS (Mk.mk a c ts (oa ρ2 2) (nb ρ2 2) (gV ts z))).ka (nxS (Mk.mk a c ts (oa ρ2 2) (nb ρ2 2) (gV ts z))).ns.length (nxS (Mk.mk a c ts (oa ρ2 2) (nb ρ2 2) (gV ts z))).kc] 113)))]) (fun ρ=>[(0,fun w=>Fs w0 w (oa ρ 0) (nb ρ 0) (xP ts z))]) (fun ρ=>(fun w=>bM w a c ts∧kJ w∧fD w∧Us w (oa ρ2 2) (nb ρ2 2) (gV ts z)∧Fs w0 w (oa ρ 0) (nb ρ 0) (xP ts z)∧True)) (fun _=>True) (fun _ _ hF hf=>⟨⟨hF.1,hF.2.1,hF.2.2.1,hF.2.2.2.1,hf 0,trivial⟩,trivial⟩) (cX (qWB [0] (fun _ _ w hG hK=>nextx_any (g:=nb ρ5 3) (a:=a) (c:=c) (b:=(oa ρ2 2)) (d:=(nb ρ2 2)) hb1 h2 w hK (hG.pK [0] (fun _ hF=>⟨hF.1,hF.2.2.2.1,trivial⟩))))<|jE [[],[],[],[],[]]) (fun ρ6 _=>?_)
 refine aB (jJ Tryz.f55 2 [4,5,7,9,27] [vi 0,vF] ?_)
 refine oN ?_
 refine aG (aA (aB (jJ Tryz.f55 3 [4,5,9,31] [.slice (oa ρ6 0) (xP ts z).length (nb ρ6 0),vn (xP ts z).length,.bool (decide (520<(((xP ts z).length:Nat):Int)))] ?_)))
 refine lK [(4,vz),(5,(vi 0)),(9,(.slice (oa ρ6 0) (xP ts z).length (nb ρ6 0))),(31,(.bool (decide (520<(((xP ts z).length:Nat):Int)))))] [] ?_
 refine oC (decide (520<(((xP ts z).length:Nat):Int))) (fun hb2=>?_) (fun hb2=>?_)
 ·
  rw [hb2]
  refine jJ Tryz.f55 2 [4,5,9] [vz,vi 4] (aF (aC (mD [(4,vz),(5,(vi 4)),(9,(.slice (oa ρ6 0) (xP ts z).length (nb ρ6 0)))] [] ?_)))
  exact mR (v:=(.tuple #[vz,vi 4])) (fun _ hS=>⟨none,0,congrArg Ending.returned (by rw [(wQ hb1 hb2).1,(wQ hb1 hb2).2]<;>rfl),hS.bel,dU (wQ hb1 hb2).2.symm Fs.nil⟩)
 rw [hb2]
 refine aG (aA (jJ Tryz.f55 3 [4,5] (let qa:Value:=.slice (oa ρ6 0) (xP ts z).length (nb ρ6 0);[qa,qa,vi 0]) (aF (mD [(4,(.slice (oa ρ6 0) (xP ts z).length (nb ρ6 0))),(5,(vi 0))] [] ?_))))
 exact mR (v:=(.tuple #[.slice (oa ρ6 0) (xP ts z).length (nb ρ6 0),vi 0])) (fun _ hS=>⟨oa ρ6 0,nb ρ6 0,congrArg Ending.returned (by rw [(ex_ok hb1 hb2).1,(ex_ok hb1 hb2).2]<;>rfl),hS.bel,dU (ex_ok hb1 hb2).2.symm hS.facts.now.2.2.2.2.1⟩)
theorem wgrow_any (a:Option Addr) (c:Nat) (ts:List bW) (n:Nat) (h2:∀ t∈ts,t.kd=2→t.ks.length=2) (hn:n≤40) (hE:∀ i,i<n→exE ts ((i:Nat):Int)=0) (w0:World) (hf0:bM w0 a c ts) (hf1:kJ w0) (hf2:fD w0) (T:Nat→Prop) (hT:∀ b,T b→b<w0.heap.size):Calls Tryz.prog 33 #[vz,.slice a ts.length c,vn n] w0 (fun ε w'=>jG w0 w'∧∃ a c s,ε=.returned (.tuple #[.slice a (List.length s) c,.int .i64 0])∧fU w0.heap.size a∧lW w0.heap.size s∧dL T (fun w=>bU w a c s∧sB s=gwB ts n) w'):=by
 refine Calls.of_ok (n:=29) (F:=(fun w=>bM w a c ts∧kJ w∧fD w∧True)) Tryz.func33 rfl rfl rfl (by simp) (hf0.pers0.and (hf1.pers0.and (hf2.pers0.and cO))) ?_
 refine jJ Tryz.f33 2 [0,1,2,6,7] [vz,vi 0] (aB (aI ?_))
 refine oLF (σ:=Nat ⊕ (Nat × (Array Value) × (List bI) × Nat)) (fun s=>match s with | Sum.inl _=>(fun w=>bM w a c ts∧kJ w∧fD w∧True) | Sum.inr ⟨_,_,M,_⟩=>(fun w=>bM w a c ts∧kJ w∧fD w∧dN w M∧True)) (fun s=>match s with | Sum.inl _=>[(0,vz),(1,(.slice a ts.length c)),(2,(vn n))] | Sum.inr ⟨q,_,M,κ⟩=>[(0,(vs q M.length κ)),(1,(.slice a ts.length c)),(2,(vn n))]) (fun s=>match s with | Sum.inl _=>[] | Sum.inr ⟨q,C,_,_⟩=>[(q,(cL C 37))]) (fun s=>match s with | Sum.inl z0=>n-z0 | Sum.inr ⟨_,_,M,_⟩=>n-M.length)
   (fun s=>match s with | Sum.inl z0=>(z0=0) | Sum.inr ⟨_,C,M,κ⟩=>(sB M=gwB ts M.length)∧(kW.A C M κ)∧(M.length≤n)∧(0<M.length)∧(lW w0.heap.size M)) (Sum.inl 0) (rfl) (fun w hF=>hF) [] ?_
 rintro (z0 | ⟨q,C,M,κ⟩)
 ·
  rintro hz
  change Ok Tryz.prog _ _ 29 [(0,vz),(1,(.slice a ts.length c)),(2,(vn n))] _ [] (fun w=>bM w a c ts∧kJ w∧fD w∧True)
  refine aB (jJ Tryz.f33 4 [0,1,2,13] [vz,vi 0,vn n,.bool (decide (0<((n:Nat):Int)))] ?_)
  refine oC (decide (0<((n:Nat):Int))) (fun hb1=>?_) (fun hb1=>?_)
  ·
   rw [hb1]
   have:=yT hb1
   refine aG (aA (aI ?_))
   refine iZ Tryz.f33 9 [0,1,2,8,9] [] (fun ρ=>let qa:Value:=.slice (oa ρ 3) (wG ts 0).length (nb ρ 3);[.slice a ts.length c,vz,vi 0,.tuple #[qa,vi (exE ts 0)],.tuple #[qa,vi (exE ts 0)],qa,vi (exE ts 0),qa,vi (exE ts 0)]) (fun _=>[]) (fun ρ=>[(3,fun w=>Fs w0 w (oa ρ 3) (nb ρ 3) (wG ts 0))]) (fun ρ=>(fun w=>bM w a c ts∧kJ w∧fD w∧Fs w0 w (oa ρ 3) (nb ρ 3) (wG ts 0)∧True)) (fun _=>True) (fun _ _ hF hf=>⟨⟨hF.1,hF.2.1,hF.2.2.1,hf 3,trivial⟩,trivial⟩) (cR [[],[],[]]<|cX (qB (fun _ _ w hG=>dexpand_any a c ts 0 h2 w hG.fn.1 hG.fn.2.1 hG.fn.2.2.1))<|jE [[],[],[],[],[]]) (fun ρ3 _=>?_)
   refine aB ?_
   refine sS Tryz.f33 2 [0,1,2,8,9,22] [] (fun _=>[vi (exE ts 0),vF]) (fun _=>[]) (cR [[]]<|jQ (fun ρ=>((exE ts 0) != 0)) false (fun _=>(bne_f (hE 0 (by omega))))<|cN) (fun _=>?_)
   refine oN ?_
   refine aG (aA ?_)
   refine okPure (p:=lW w0.heap.size [⟨oa ρ3 3,nb ρ3 3,wG ts 0⟩]) (fun w hF=>lW.one hF.2.2.2.1) (fun hx=>?_)
   refine rS Tryz.f33 5 [0,1,2] [0,1] (fun ρ=>let qa:=[bI.mk (oa ρ3 3) (nb ρ3 3) (wG ts 0)];let qb:=vs (nb ρ 3) qa.length (qa.length+aZ ρ 3);[vz,.slice (oa ρ3 3) (wG ts 0).length (nb ρ3 3),vs (nb ρ 2) 1 1,qb,qb]) (fun ρ=>[(2,(nw ρ 2 (cL #[.slice (oa ρ3 3) (wG ts 0).length (nb ρ3 3)] 37))),(3,(nw ρ 3 (cL ((kW.r ([bI.mk (oa ρ3 3) (nb ρ3 3) (wG ts 0)])).toArray++Builtin.zeroCells (Value.cells vz) (aZ ρ 3)) 37)))]) (cR [[],[],[]]<|cX (qN (fun _ ζ=>(vs (ζ.headD 0) ([bI.mk (oa ρ3 3) (nb ρ3 3) (wG ts 0)]).length (([bI.mk (oa ρ3 3) (nb ρ3 3) (wG ts 0)]).length+ζ.tail.headD 0))) (fun _ ζ=>(cL ((kW.r ([bI.mk (oa ρ3 3) (nb ρ3 3) (wG ts 0)])).toArray++Builtin.zeroCells (Value.cells vz) (ζ.tail.headD 0)) 37)) (fun ρ _ _ hG=>pX (K:=kW) (ty:=29) (us:=[bI.mk (oa ρ3 3) (nb ρ3 3) (wG ts 0)]) Tryz.underlying29 (dA (sz:=1) (b:=24) (z:=vz) (by kernel_rfl) rfl) (src_s1 Tryz.underlying29 rfl (hG.kn (g:=nb ρ 2) (o:=(cL #[.slice (oa ρ3 3) (wG ts 0).length (nb ρ3 3)] 37)) 16)) (Nat.le_of_ble_eq_true rfl) (Nat.le_of_ble_eq_true rfl) (by decide)))<|jE [[]]) (fun ρ5=>?_)
   refine aJ (mD [(0,(vs (nb ρ5 3) ([bI.mk (oa ρ3 3) (nb ρ3 3) (wG ts 0)]).length (([bI.mk (oa ρ3 3) (nb ρ3 3) (wG ts 0)]).length+aZ ρ5 3))),(1,(.slice a ts.length c)),(2,(vn n))] [(nb ρ5 3,(cL ((kW.r ([bI.mk (oa ρ3 3) (nb ρ3 3) (wG ts 0)])).toArray++Builtin.zeroCells (Value.cells vz) (aZ ρ5 3)) 37))] ?_)
   exact mNF (Sum.inr (nb ρ5 3,(kW.r ([bI.mk (oa ρ3 3) (nb ρ3 3) (wG ts 0)])).toArray++Builtin.zeroCells (Value.cells vz) (aZ ρ5 3),[bI.mk (oa ρ3 3) (nb ρ3 3) (wG ts 0)],([bI.mk (oa ρ3 3) (nb ρ3 3) (wG ts 0)]).length+aZ ρ5 3)) (by show n-([bI.mk (oa ρ3 3) (nb ρ3 3) (wG ts 0)]).length<n-z0;have:=hz;simp only [List.length_cons,List.length_nil];omega) (⟨(show [wG ts ((0:Nat):Int)]=gwB ts 1 from rfl),RowK.A.fresh (K:=kW) (z:=vz) rfl ([bI.mk (oa ρ3 3) (nb ρ3 3) (wG ts 0)]) (aZ ρ5 3),(by simp only [List.length_cons,List.length_nil];omega),Nat.le_of_ble_eq_true rfl,hx⟩) (fun w hS=>hS.weaken (fun w hF=>⟨hF.1,hF.2.1,hF.2.2.1,dN.one hF.2.2.2.1.1,trivial⟩))
  rw [hb1]
  refine bF (aN (aN (aT (aA (jJ Tryz.f33 3 [6,7] [vz,vz,vi 0] (aF (mD [(6,vz),(7,(vi 0))] [] ?_)))))))
  exact mR (v:=(.tuple #[vz,vi 0])) (fun _ hS=>⟨hS.bel,none,0,[],rfl,fU.none,iI.nil,dB (fun _=>⟨bU.nil,(by rw [show n=0 by have:=yF hb1;omega];rfl)⟩)⟩)
 rintro ⟨hM,hA,hm,h0,hN⟩
 change Ok Tryz.prog _ _ 29 [(0,(vs q M.length κ)),(1,(.slice a ts.length c)),(2,(vn n))] _ [(q,(cL C 37))] (fun w=>bM w a c ts∧kJ w∧fD w∧dN w M∧True)
 refine aB (jJ Tryz.f33 4 [0,1,2,13] [vs q M.length κ,vn M.length,vn n,.bool (decide (((M.length:Nat):Int)<((n:Nat):Int)))] ?_)
 refine oC (decide (((M.length:Nat):Int)<((n:Nat):Int))) (fun hb2=>?_) (fun hb2=>?_)
 ·
  rw [hb2]
  have:=yT hb2
  refine aG (aA (aI ?_))
  refine iZ Tryz.f33 9 [0,1,2,8,9] [] (fun ρ=>let qa:Value:=.slice (oa ρ 3) (wG ts ((M.length:Nat):Int)).length (nb ρ 3);let qb:=vi (exE ts ((M.length:Nat):Int));[.slice a ts.length c,vs q M.length κ,vn M.length,.tuple #[qa,qb],.tuple #[qa,qb],qa,qb,qa,qb]) (fun _=>[]) (fun ρ=>[(3,fun w=>Fs w0 w (oa ρ 3) (nb ρ 3) (wG ts ((M.length:Nat):Int)))]) (fun ρ=>(fun w=>bM w a c ts∧kJ w∧fD w∧dN w M∧Fs w0 w (oa ρ 3) (nb ρ 3) (wG ts ((M.length:Nat):Int))∧True)) (fun _=>True) (fun _ _ hF hf=>⟨⟨hF.1,hF.2.1,hF.2.2.1,hF.2.2.2.1,hf 3,trivial⟩,trivial⟩) (cR [[],[],[]]<|cX (qB (fun _ _ w hG=>dexpand_any a c ts ((M.length:Nat):Int) h2 w hG.fn.1 hG.fn.2.1 hG.fn.2.2.1))<|jE [[],[],[],[],[]]) (fun ρ8 _=>?_)
  refine aB ?_
  refine sS Tryz.f33 2 [0,1,2,8,9,22] [] (fun _=>[vi (exE ts ((M.length:Nat):Int)),vF]) (fun _=>[]) (cR [[]]<|jQ (fun ρ=>((exE ts ((M.length:Nat):Int)) != 0)) false (fun _=>(bne_f (hE M.length (by omega))))<|cN) (fun _=>?_)
  refine oN ?_
  refine aG (aA ?_)
  refine okPure (p:=lW w0.heap.size [⟨oa ρ8 3,nb ρ8 3,wG ts ((M.length:Nat):Int)⟩]) (fun w hF=>lW.one hF.2.2.2.2.1) (fun hx=>?_)
  refine rSf Tryz.f33 5 [0,1,2] [1,0] (fun ρ=>let qa:=vs (nb ρ 3) (M++([bI.mk (oa ρ8 3) (nb ρ8 3) (wG ts ((M.length:Nat):Int))])).length (aZ ρ 3);[vs q M.length κ,.slice (oa ρ8 3) (wG ts ((M.length:Nat):Int)).length (nb ρ8 3),vs (nb ρ 2) 1 1,qa,qa]) (fun ρ=>[(2,(nw ρ 2 (cL #[.slice (oa ρ8 3) (wG ts ((M.length:Nat):Int)).length (nb ρ8 3)] 37))),(3,(bD 0 (nb ρ 3) (cL (oc ρ 3) 37)))]) (fun ρ=>[(3,fun w=>kW.A (oc ρ 3) (M++([bI.mk (oa ρ8 3) (nb ρ8 3) (wG ts ((M.length:Nat):Int))])) (aZ ρ 3))]) (fun _=>(fun w=>bM w a c ts∧kJ w∧fD w∧dN w M∧Fs w0 w (oa ρ8 3) (nb ρ8 3) (wG ts ((M.length:Nat):Int))∧True)) (fun ρ=>kW.A (oc ρ 3) (M++([bI.mk (oa ρ8 3) (nb ρ8 3) (wG ts ((M.length:Nat):Int))])) (aZ ρ 3)) (fun _ _ hF hf=>⟨hF,hf 3⟩) (cR [[],[],[]]<|cX (qM 0 (fun ρ _ _ hG hg=>wB (K:=kW) (ty:=29) (g:=q) (ts:=M) (us:=[bI.mk (oa ρ8 3) (nb ρ8 3) (wG ts ((M.length:Nat):Int))]) Tryz.underlying29 (dA (sz:=1) (b:=24) (z:=vz) (by kernel_rfl) rfl) hA (src_s1 Tryz.underlying29 rfl (hG.kn (g:=nb ρ 2) (o:=(cL #[.slice (oa ρ8 3) (wG ts ((M.length:Nat):Int)).length (nb ρ8 3)] 37)) 17)) (by simp only [List.length_cons,List.length_nil];omega) (by decide) hg))<|jE [[]]) (fun ρ10 ap10_3=>?_)
  refine aJ (mD [(0,(vs (nb ρ10 3) (M++([bI.mk (oa ρ8 3) (nb ρ8 3) (wG ts ((M.length:Nat):Int))])).length (aZ ρ10 3))),(1,(.slice a ts.length c)),(2,(vn n))] [(nb ρ10 3,(cL (oc ρ10 3) 37))] ?_)
  exact mNF (Sum.inr (nb ρ10 3,oc ρ10 3,M++([bI.mk (oa ρ8 3) (nb ρ8 3) (wG ts ((M.length:Nat):Int))]),aZ ρ10 3)) (by show n-(M++([bI.mk (oa ρ8 3) (nb ρ8 3) (wG ts ((M.length:Nat):Int))])).length<n-M.length;simp only [List.length_append,List.length_cons,List.length_nil];omega) (⟨(by unfold sB at hM ⊢;rw [List.map_append,hM,List.length_append];exact (gwB_next ts M.length).symm),ap10_3,(by simp only [List.length_append,List.length_cons,List.length_nil];omega),(by simp only [List.length_append,List.length_cons,List.length_nil];omega),iI.app hN hx⟩) (fun w hS=>hS.weaken (fun w hF=>⟨hF.1,hF.2.1,hF.2.2.1,dN.app hF.2.2.2.1 (dN.one hF.2.2.2.2.1.1),trivial⟩))
 rw [hb2]
 refine bF (aN (aN (aT (aA (jJ Tryz.f33 3 [6,7] [vs q M.length κ,vs q M.length κ,vi 0] (aF (mD [(6,(vs q M.length κ)),(7,(vi 0))] [(q,(cL C 37))] ?_)))))))
 exact mR (v:=(.tuple #[vs q M.length κ,vi 0])) (fun _ hS=>⟨hS.bel,_,_,M,rfl,fU.some (hS.newb (.head _)).1,hN,(bU.fin (hS.newb (.head _)).2 hA (by have:=yF hb2;omega) hT (hS.newb (.head _)).1 (dN.mkA hS.facts.now.2.2.2.1 (fun s hs=>(hN s hs).sub hT))).mono (fun _ h=>⟨h,by rw [hM,show M.length=n by have:=yF hb2;omega]⟩)⟩)
theorem fixedw_any  (w0:World) (T:Nat→Prop) (hT:∀ b,T b→b<w0.heap.size):Calls Tryz.prog 26 #[] w0 (fun ε w'=>jG w0 w'∧∃ r:bH,ε=.returned (.slice r.a 1 (r.n.headD 0))∧fU w0.heap.size r.a∧fU w0.heap.size r.b∧dL T (fun w=>bM w r.a (r.n.headD 0) [oT (kP 4) false r.b (r.n.tail.headD 0)]) w'):=by
 refine Calls.of_ok (n:=7) (F:=(fun _=>True)) Tryz.func26 rfl rfl rfl (by simp) jT ?_
 refine jJ Tryz.f26 1 [0] [vz] ?_
 refine sS Tryz.f26 7 [0] [] (fun ρ=>[U 4,.agg (kC 0 4 0 0 0 0),.agg (kM 0 4 0 0 0 0 vz vF),vs (nb ρ 3) 1 1,.agg (iC 1 0 0 0 (vs (nb ρ 3) 1 1)),vs (nb ρ 5) 1 1,vs (nb ρ 5) 1 1]) (fun ρ=>[(3,(nw ρ 3 (cL (kM 0 4 0 0 0 0 vz vF) 69))),(5,(nw ρ 5 (cL (iC 1 0 0 0 (vs (nb ρ 3) 1 1)) 60)))]) (jE [[],[],[],[],[],[],[]]) (fun ρ2=>?_)
 refine aF (mD [(0,(vs (nb ρ2 5) 1 1))] [(nb ρ2 3,(cL (kM 0 4 0 0 0 0 vz vF) 69)),(nb ρ2 5,(cL (iC 1 0 0 0 (vs (nb ρ2 3) 1 1)) 60))] ?_)
 exact mR (v:=(vs (nb ρ2 5) 1 1)) (fun _ hS=>⟨hS.bel,{ n:=[1,1],a:=some ⟨nb ρ2 5,0,none⟩,b:=some ⟨nb ρ2 3,0,none⟩},rfl,fU.some (hS.newb (.tail _ (.head _))).1,fU.some (hS.newb (.head _)).1,hS.oneT (k:=kP 4) (wd:=false) hT (hS.newb (.tail _ (.head _))) (hS.newb (.head _)) (fx_T _) fx_K (pT_ok (kP_ok four_M) kP_rng)⟩)
theorem wnew_any (a:Option Addr) (c:Nat) (k:Ky) (ka:Option Addr) (kc:Nat) (z:Int) (hk:k.Ok) (hd:rng k.d) (hv:xW [oT k false ka kc]=true) (hE:exE [oT k false ka kc] 0=0) (_hz:1≤z∧z≤20) (w0:World) (hf0:bM w0 a c ([oT k false ka kc])) (hf1:kJ w0) (hf2:fD w0) (T:Nat→Prop) (hT:∀ b,T b→b<w0.heap.size):Calls Tryz.prog 11 #[.slice a ([oT k false ka kc]).length c,vi z] w0 (fun ε w'=>jG w0 w'∧∃ r:bH,ε=.returned (.tuple #[.agg #[.slice r.a 1 (r.n.headD 0),.int .i64 z,.int .i64 0,.slice r.d r.s.length (r.n.tail.tail.headD 0)],.int .i64 0])∧dL T (fun w=>bM w r.a (r.n.headD 0) [oT k false r.b (r.n.tail.headD 0)]∧bU w r.d (r.n.tail.tail.headD 0) r.s∧sB r.s=gwB [oT k false ka kc] 1) w'):=by
 refine Calls.of_ok (n:=38) (F:=(fun w=>bM w a c ([oT k false ka kc])∧kJ w∧fD w∧True)) Tryz.func11 rfl rfl rfl (by simp) (hf0.pers0.and (hf1.pers0.and (hf2.pers0.and cO))) ?_
 refine sS Tryz.f11 2 [0,1,4,5] [] (fun ρ=>[pt (nb ρ 0),vi 0]) (fun ρ=>[(0,(nw ρ 0 (cL #[vz,vi 0,vi 0,vz] 31)))]) (jE [[],[]]) (fun ρ1=>?_)
 refine aB ?_
 refine sS Tryz.f11 3 [0,1,4,5,11] [] (fun _=>[.slice a ([oT k false ka kc]).length c,vT,vF]) (fun _=>[]) (cR [[]]<|cX (tK _ 31 (fun _=> #[.slice a ([oT k false ka kc]).length c]) (fun _=>vT) (fun _ _=>(by kernel_rfl)) (fun _=>(by kernel_rfl)) (fun _ _=>(by kernel_rfl)) (fun _ _=>trivial) (fun _ _ w hG=>(by as_aux_lemma=>(have hcall:=dvalid_any a c ([oT k false ka kc]) w hG.fn.1;rw [hv] at hcall;exact hcall))))<|jE [[]]) (fun _=>?_)
 refine oN ?_
 refine aG (aA (aB ?_))
 refine sS Tryz.f11 6 [0,1,4,5,18] [] (fun _=>[vi z,vF,vF,vi z,vF,vF]) (fun _=>[]) (cR [[]]<|jQ (fun ρ=>(decide (z<1))) false (fun _=>(decide_eq_false (by omega)))<|cR [[],[]]<|jQ (fun ρ=>(decide (20<z))) false (fun _=>(decide_eq_false (by omega)))<|jE [[]]) (fun _=>?_)
 refine oN ?_
 refine aG (aA (jJ Tryz.f11 1 [0,1,4,5,6] [vi 1] (aB ?_)))
 refine sS Tryz.f11 2 [0,1,4,5,6,21] [] (fun _=>[.slice a ([oT k false ka kc]).length c,vF]) (fun _=>[]) (cR [[]]<|cX (tK _ 32 (fun _=> #[.slice a ([oT k false ka kc]).length c]) (fun _=>vF) (fun _ _=>(by kernel_rfl)) (fun _=>(by kernel_rfl)) (fun _ _=>(by kernel_rfl)) (fun _ _=>trivial) (fun _ _ w hG=>(by as_aux_lemma=>(have hcall:=dranged_any a c ([oT k false ka kc]) w hG.fn.1;rw [oT_rg] at hcall;exact hcall))))<|cN) (fun _=>?_)
 refine oN ?_
 refine aG (aA ?_)
 refine iZ Tryz.f11 8 [0,1,4,5,7,8] [] (fun ρ=>let qa:Value:=.slice (oa ρ 2) (os ρ 2).length (nb ρ 2);[.slice a ([oT k false ka kc]).length c,vi 1,.tuple #[qa,vi 0],.tuple #[qa,vi 0],qa,vi 0,qa,vi 0]) (fun _=>[]) (fun ρ=>[(2,fun w=>(bU w (oa ρ 2) (nb ρ 2) (os ρ 2)∧sB (os ρ 2)=gwB ([oT k false ka kc]) 1∧lW w0.heap.size (os ρ 2)∧fU w0.heap.size (oa ρ 2)))]) (fun ρ=>(fun w=>bM w a c ([oT k false ka kc])∧kJ w∧fD w∧bU w (oa ρ 2) (nb ρ 2) (os ρ 2)∧True)) (fun ρ=>(sB (os ρ 2)=gwB ([oT k false ka kc]) 1∧lW w0.heap.size (os ρ 2)∧fU w0.heap.size (oa ρ 2))) (fun _ _ hF hf=>⟨⟨hF.1,hF.2.1,hF.2.2.1,(hf 2).1,trivial⟩,(hf 2).2⟩) (cR [[],[]]<|cX (qE (fun _ τ w hG=>wgrow_any a c ([oT k false ka kc]) 1 oT_two (by decide) (fun i _=>by obtain rfl:i=0:=(by omega);exact hE) w hG.fn.1 hG.fn.2.1 hG.fn.2.2.1 τ hG.lt))<|jE [[],[],[],[],[]]) (fun ρ6 ap6_2=>?_)
 refine aB (jJ Tryz.f11 2 [0,1,4,5,7,8,30] [vi 0,vF] ?_)
 refine lK [(0,(.slice a ([oT k false ka kc]).length c)),(1,(vi z)),(4,(pt (nb ρ1 0))),(5,(vi 0)),(7,(.slice (oa ρ6 2) (os ρ6 2).length (nb ρ6 2))),(8,(vi 0)),(30,vF)] [(nb ρ1 0,(cL #[vz,vi 0,vi 0,vz] 31))] ?_
 refine oN ?_
 refine aG (aA ?_)
 refine iZ Tryz.f11 7 [4,5] [] (fun ρ=>let qa:Value:=.slice (oa ρ 1) ([oT k false (tN ρ 1) (aZ ρ 1)]).length (nb ρ 1);let qb:Value:=.slice (oa ρ6 2) (os ρ6 2).length (nb ρ6 2);[.slice a ([oT k false ka kc]).length c,qa,vi z,qb,.agg #[qa,vi z,vi 0,qb],undef,vi 0]) (fun ρ=>[(5,(bD 0 (nb ρ1 0) (cL #[.slice (oa ρ 1) ([oT k false (tN ρ 1) (aZ ρ 1)]).length (nb ρ 1),vi z,vi 0,.slice (oa ρ6 2) (os ρ6 2).length (nb ρ6 2)] 31)))]) (fun ρ=>[(1,fun w=>(bM w (oa ρ 1) (nb ρ 1) ([oT k false (tN ρ 1) (aZ ρ 1)])∧fU w0.heap.size (oa ρ 1)∧fU w0.heap.size (tN ρ 1)))]) (fun ρ=>(fun w=>bM w a c ([oT k false ka kc])∧kJ w∧fD w∧bU w (oa ρ6 2) (nb ρ6 2) (os ρ6 2)∧bM w (oa ρ 1) (nb ρ 1) ([oT k false (tN ρ 1) (aZ ρ 1)])∧True)) (fun ρ=>(fU w0.heap.size (oa ρ 1)∧fU w0.heap.size (tN ρ 1))) (fun _ _ hF hf=>⟨⟨hF.1,hF.2.1,hF.2.2.1,hF.2.2.2.1,(hf 1).1,trivial⟩,(hf 1).2⟩) (cR [[]]<|cX (qT1 (fun _ τ w hG=>clterms_any a c k false ka kc hk hd w hG.fn.1 τ hG.lt))<|jE [[],[],[],[0],[]]) (fun ρ8 ap8_1=>?_)
 refine aF (mD [(4,(pt (nb ρ1 0))),(5,(vi 0))] [(nb ρ1 0,(cL #[.slice (oa ρ8 1) ([oT k false (tN ρ8 1) (aZ ρ8 1)]).length (nb ρ8 1),vi z,vi 0,.slice (oa ρ6 2) (os ρ6 2).length (nb ρ6 2)] 31))] ?_)
 exact mR (v:=(.tuple #[.agg #[.slice (oa ρ8 1) ([oT k false (tN ρ8 1) (aZ ρ8 1)]).length (nb ρ8 1),vi z,vi 0,.slice (oa ρ6 2) (os ρ6 2).length (nb ρ6 2)],vi 0])) (fun _ hS=>⟨hS.bel,{ n:=[nb ρ8 1,aZ ρ8 1,nb ρ6 2],a:=oa ρ8 1,b:=tN ρ8 1,d:=oa ρ6 2,s:=os ρ6 2},rfl,((bM.oneP hS.facts.now.2.2.2.2.1 ap8_1.1 ap8_1.2 hT).and (bU.newP hS.facts.now.2.2.2.1 ap6_2.2.2 ap6_2.2.1 hT)).mono (fun _ h=>⟨h.1,h.2,ap6_2.1⟩)⟩)
theorem wfresh_any (a:Option Addr) (c:Nat) (k:Ky) (ka:Option Addr) (kc:Nat) (x1:Int) (x2:Int) (a2:Option Addr) (c2:Nat) (l:List bI) (_hl:l.length=1) (w0:World) (hf0:bM w0 a c ([oT k false ka kc])) (hf1:bU w0 a2 c2 l):Calls Tryz.prog 18 #[.agg #[.slice a ([oT k false ka kc]).length c,vi x1,vi x2,.slice a2 l.length c2]] w0 (fun ε w'=>∃ α κ,ε=.returned (.tuple #[.slice α (gS l 0).b.length κ,vi 0])∧jG w0 w'∧Fs w0 w' α κ (gS l 0).b):=by
 refine Calls.of_ok (n:=26) (F:=(fun w=>bM w a c ([oT k false ka kc])∧bU w a2 c2 l∧True)) Tryz.func18 rfl rfl rfl (by simp) (hf0.pers0.and (hf1.pers0.and cO)) ?_
 refine sS Tryz.f18 3 [1,2,3] [] (fun ρ=>[pt (nb ρ 0),vz,vi 0]) (fun ρ=>[(0,(nw ρ 0 (cL #[.slice a ([oT k false ka kc]).length c,vi x1,vi x2,.slice a2 l.length c2] 31)))]) (jE [[],[],[]]) (fun ρ1=>?_)
 refine jJ Tryz.f18 1 [1,2,3,4] [vi 0] (aB ?_)
 refine sS Tryz.f18 3 [1,2,3,4,7] [] (fun _=>[pt (nb ρ1 0),.slice a ([oT k false ka kc]).length c,vF]) (fun _=>[]) (cR [[],[0]]<|cX (tK _ 32 (fun _=> #[.slice a ([oT k false ka kc]).length c]) (fun _=>vF) (fun _ _=>(by kernel_rfl)) (fun _=>(by kernel_rfl)) (fun _ _=>(by kernel_rfl)) (fun _ _=>trivial) (fun _ _ w hG=>(by as_aux_lemma=>(have hcall:=dranged_any a c ([oT k false ka kc]) w hG.fn.1;rw [oT_rg] at hcall;exact hcall))))<|cN) (fun _=>?_)
 refine oN ?_
 refine aG (aA (aB ?_))
 refine sS Tryz.f18 9 [1,2,3,4,18] [] (fun _=>[vi 0,vF,vF,vi 0,jp (nb ρ1 0) 3,.slice a2 l.length c2,vn l.length,vF,vF]) (fun _=>[]) (cR [[],[],[],[],[],[0],[]]<|jQ (fun ρ=>(decide (((l.length:Nat):Int)≤0))) false (fun _=>(decide_eq_false (by omega)))<|jE [[]]) (fun _=>?_)
 refine oN ?_
 refine aG (aA ?_)
 refine iZ Tryz.f18 9 [2,3] [0] (fun ρ=>let qa:Value:=.slice (oa ρ 5) (gS l 0).b.length (nb ρ 5);[jp (nb ρ1 0) 3,.slice a2 l.length c2,vi 0,.pointer (fK a2 0),.slice (gS l 0).a (gS l 0).b.length (gS l 0).c,qa,vi 0,qa,vi 0]) (fun _=>[]) (fun ρ=>[(5,fun w=>Fs w0 w (oa ρ 5) (nb ρ 5) (gS l 0).b)]) (fun ρ=>(fun w=>bM w a c ([oT k false ka kc])∧bU w a2 c2 l∧Fs w0 w (oa ρ 5) (nb ρ 5) (gS l 0).b∧True)) (fun _=>True) (fun _ _ hF hf=>⟨⟨hF.1,hF.2.1,hf 5,trivial⟩,trivial⟩) (cR [[],[0],[]]<|cX (qF (fun _ _ _ hG=>bU.idx (k:=.i64) Tryz.underlying29 Tryz.sizeOf37 hG.fn.2.1 rfl (show (0:Int)=((0:Nat):Int) from rfl) (show 0<l.length from by omega)))<|cX (qF (fun _ _ _ hG=>bU.ld Tryz.isAgg37 hG.fn.2.1 (show 0<l.length from by omega)))<|cX (qB (fun _ _ w hG=>bclone_any (gS l 0).a (gS l 0).c (gS l 0).b w (hG.fn.2.1.sub _ (iO (show 0<l.length from by omega)))))<|jE [[],[],[]]) (fun ρ5 _=>?_)
 refine aF (mD [(2,(.slice (oa ρ5 5) (gS l 0).b.length (nb ρ5 5))),(3,(vi 0))] [] ?_)
 exact mR (v:=(.tuple #[.slice (oa ρ5 5) (gS l 0).b.length (nb ρ5 5),vi 0])) (fun _ hS=>⟨oa ρ5 5,nb ρ5 5,congrArg Ending.returned (rfl),hS.bel,dU (rfl) hS.facts.now.2.2.1⟩)
theorem wsanew_any (p:Nat) (hpM:p<M) (hp:iY p=true) (w0:World) (hf0:kJ w0) (hf1:fD w0) (hfix:∀ (w0:World) (T:Nat→Prop) (_hT:∀ b,T b→b<w0.heap.size),Calls Tryz.prog 26 #[] w0 (fun ε w'=>jG w0 w'∧∃ r:bH,ε=.returned (.slice r.a 1 (r.n.headD 0))∧fU w0.heap.size r.a∧fU w0.heap.size r.b∧dL T (fun w=>bM w r.a (r.n.headD 0) [oT (kP p) false r.b (r.n.tail.headD 0)]) w')):Calls Tryz.prog 7 #[] w0 (jR vT w0):=by
 refine Calls.of_ok (n:=38) (F:=(fun w=>kJ w∧fD w∧True)) Tryz.func7 rfl rfl rfl (by simp) (hf0.pers0.and (hf1.pers0.and cO)) ?_
 refine jJ Tryz.f7 1 [0] [vF] ?_
 refine iZ Tryz.f7 8 [0,1,2] [] (fun ρ=>let qa:Value:=.agg #[.slice (oa ρ 1) ([oT (kP p) false (tN ρ 1) (aZ ρ 1)]).length (nb ρ 1),vi 3,vi 0,.slice (od2 ρ 1) (os ρ 1).length (nb3 ρ 1)];[.slice (oa ρ 0) ([oT (kP p) false (tN ρ 0) (aZ ρ 0)]).length (nb ρ 0),.tuple #[qa,vi 0],.tuple #[qa,vi 0],qa,vi 0,pt (nb ρ 5),undef,vi 0]) (fun ρ=>[(5,(nw ρ 5 (cL #[vz,vi 0,vi 0,vz] 31))),(6,(bD 40 (nb ρ 5) (cL #[.slice (oa ρ 1) ([oT (kP p) false (tN ρ 1) (aZ ρ 1)]).length (nb ρ 1),vi 3,vi 0,.slice (od2 ρ 1) (os ρ 1).length (nb3 ρ 1)] 31)))]) (fun ρ=>[(0,fun w=>(bM w (oa ρ 0) (nb ρ 0) ([oT (kP p) false (tN ρ 0) (aZ ρ 0)])∧fU w0.heap.size (oa ρ 0)∧fU w0.heap.size (tN ρ 0))),(1,fun w=>(bM w (oa ρ 1) (nb ρ 1) ([oT (kP p) false (tN ρ 1) (aZ ρ 1)])∧bU w (od2 ρ 1) (nb3 ρ 1) (os ρ 1)∧sB (os ρ 1)=gwB ([oT (kP p) false (tN ρ 0) (aZ ρ 0)]) 1))]) (fun ρ=>(fun w=>kJ w∧fD w∧bM w (oa ρ 0) (nb ρ 0) ([oT (kP p) false (tN ρ 0) (aZ ρ 0)])∧bM w (oa ρ 1) (nb ρ 1) ([oT (kP p) false (tN ρ 1) (aZ ρ 1)])∧bU w (od2 ρ 1) (nb3 ρ 1) (os ρ 1)∧True)) (fun ρ=>(fU w0.heap.size (oa ρ 0)∧fU w0.heap.size (tN ρ 0))∧sB (os ρ 1)=gwB ([oT (kP p) false (tN ρ 0) (aZ ρ 0)]) 1) (fun _ _ hF hf=>⟨⟨hF.1,hF.2.1,(hf 0).1,(hf 1).1,(hf 1).2.1,trivial⟩,⟨(hf 0).2,(hf 1).2.2⟩⟩) (cX (qT1 (fun _ τ w hG=>hfix w  τ hG.lt))<|cX (qO (fun ρ τ w hG=>wnew_any (oa ρ 0) (nb ρ 0) (kP p) (tN ρ 0) (aZ ρ 0) 3 (kP_ok hpM) kP_rng (fx_vl hp) (fx_exE hp) (by decide) w (show (bM w (oa ρ 0) (nb ρ 0) ([oT (kP p) false (tN ρ 0) (aZ ρ 0)])∧fU w0.heap.size (oa ρ 0)∧fU w0.heap.size (tN ρ 0)) from (hG.facts 0 rfl).now).1 hG.fn.1 hG.fn.2.1 τ hG.lt))<|jE [[],[],[],[],[40],[]]) (fun ρ2 ⟨ap2_0,ap2_1⟩=>?_)
 refine iZ Tryz.f7 7 [0,1,2,3,4] [] (fun ρ=>let qa:Value:=.slice (oa ρ 1) (gS (os ρ2 1) 0).b.length (nb ρ 1);[.agg #[.slice (oa ρ2 1) ([oT (kP p) false (tN ρ2 1) (aZ ρ2 1)]).length (nb ρ2 1),vi 3,vi 0,.slice (od2 ρ2 1) (os ρ2 1).length (nb3 ρ2 1)],.tuple #[qa,vi 0],.tuple #[qa,vi 0],qa,vi 0,qa,vi 0]) (fun _=>[]) (fun ρ=>[(1,fun w=>Fs w0 w (oa ρ 1) (nb ρ 1) (gS (os ρ2 1) 0).b)]) (fun ρ=>(fun w=>kJ w∧fD w∧bM w (oa ρ2 0) (nb ρ2 0) ([oT (kP p) false (tN ρ2 0) (aZ ρ2 0)])∧bM w (oa ρ2 1) (nb ρ2 1) ([oT (kP p) false (tN ρ2 1) (aZ ρ2 1)])∧bU w (od2 ρ2 1) (nb3 ρ2 1) (os ρ2 1)∧Fs w0 w (oa ρ 1) (nb ρ 1) (gS (os ρ2 1) 0).b∧True)) (fun _=>True) (fun _ _ hF hf=>⟨⟨hF.1,hF.2.1,hF.2.2.1,hF.2.2.2.1,hF.2.2.2.2.1,hf 1,trivial⟩,trivial⟩) (cR [[0]]<|cX (qB (fun _ _ w hG=>wfresh_any (oa ρ2 1) (nb ρ2 1) (kP p) (tN ρ2 1) (aZ ρ2 1) 3 0 (od2 ρ2 1) (nb3 ρ2 1) (os ρ2 1) (one_sc (ap2_1.trans (fx_gw hp))).1 w hG.fn.2.2.2.1 hG.fn.2.2.2.2.1))<|jE [[],[],[],[],[]]) (fun ρ3 _=>?_)
 refine sS Tryz.f7 24 [0] [0] (fun _=>let qa:Value:=.slice (oa ρ3 1) (gS (os ρ2 1) 0).b.length (nb ρ3 1);let qb:Value:=.slice (od2 ρ2 1) (os ρ2 1).length (nb3 ρ2 1);[vi 0,vT,vT,jp (nb ρ2 5) 3,qb,vn (os ρ2 1).length,vT,vT,vT,qa,vn (gS (os ρ2 1) 0).b.length,vT,vT,vT,vi 0,vT,vT,vT,.agg #[.slice (oa ρ2 1) ([oT (kP p) false (tN ρ2 1) (aZ ρ2 1)]).length (nb ρ2 1),vi 3,vi 0,qb],qa,vi (ixB (gS (os ρ2 1) 0).b (sB (os ρ2 1)) 0),vT,vT,vT]) (fun _=>[]) (cR [[],[],[],[],[0],[]]<|jQ (fun ρ=>((((os ρ2 1).length:Nat):Int)==1)) true (fun _=>(beq_t (by rw [(one_sc (ap2_1.trans (fx_gw hp))).1];rfl)))<|cR [[],[],[],[]]<|jQ (fun ρ=>((((gS (os ρ2 1) 0).b.length:Nat):Int)==35)) true (fun _=>(beq_t (by rw [(one_sc (ap2_1.trans (fx_gw hp))).2.1,sg_len];rfl)))<|cR [[],[],[],[],[],[],[0],[]]<|cX (qC (fun _ _ w hG=>wfind_any (.slice (oa ρ2 1) ([oT (kP p) false (tN ρ2 1) (aZ ρ2 1)]).length (nb ρ2 1)) 3 0 (od2 ρ2 1) (nb3 ρ2 1) (os ρ2 1) (oa ρ3 1) (nb ρ3 1) (gS (os ρ2 1) 0).b w hG.fn.2.2.2.2.1 hG.fn.2.2.2.2.2.1.1))<|jQ (fun ρ=>((ixB (gS (os ρ2 1) 0).b (sB (os ρ2 1)) 0)==0)) true (fun _=>(beq_t (one_sc (ap2_1.trans (fx_gw hp))).2.2))<|jE [[],[]]) (fun _=>?_)
 refine aF ?_
 exact mR (v:=vT) (fun _ hS=>⟨rfl,hS.bel⟩)
theorem wsane_any (w0:World) (hf0:kJ w0) (hf1:fD w0):Calls Tryz.prog 7 #[] w0 (jR vT w0):=wsanew_any 4 four_M val_four w0 hf0 hf1 fixedw_any
open Go Go.ChangeShapes Go.WideShapes Go.RowKit
theorem laidOut:laidOutB Tryz.prog=true:=by kernel_rfl
theorem own:ownKnob Tryz.prog.godebug=none:=by kernel_rfl
def zK:List (String × DataW Unit):=[("lightclient/sha.k",Rows.laid_lightclient_sha_k),("lightclient/sha.initial",Rows.laid_lightclient_sha_initial)]
def zsK:List Int:=kL.map fun (x:Nat)=>(x:Int)
def zsI:List Int:=[1779033703,3144134277,1013904242,2773480762,1359893119,2600822924,528734635,1541459225]
theorem kb_tab {W:World} {g:Nat} {zs:List Int} {C:Array Value} (hc:∀ i,i<zs.length→W.cell? ⟨g,i,none⟩=some (.int .u32 (zs.getD i 0))) (hC:C=(zs.map (Value.int .u32)).toArray):Kb W g C:=by
  intro i v hv
  rw [hC,List.getElem?_toArray,List.getElem?_map] at hv
  obtain ⟨z,hz,rfl⟩:=Option.map_eq_some_iff.1 hv
  have hi:=(List.getElem?_eq_some_iff.1 hz).1
  rw [hc i hi]
  simp [List.getD,hz]
theorem laid_two {W:World} (h:laidMetH Tryz.prog zK W):Kb W 2 (bY .u32 64 kN)∧Kb W 1 #[.int .u32 1779033703,.int .u32 3144134277,.int .u32 1013904242,.int .u32 2773480762,.int .u32 1359893119,.int .u32 2600822924,.int .u32 528734635,.int .u32 1541459225]:=by
  rw [MakeChecks.laidMetH_plain _ _ _ (by kernel_rfl)] at h
  obtain ⟨ps,⟨g0,t0,cs0,f0,p0,q0,hg0,ht0,hv0,hd0,⟨g1,t1,cs1,f1,p1,q1,hg1,ht1,hv1,hd1,_,_⟩,_⟩,_,_⟩:=h
  have n0:Tryz.prog.globalNamed "lightclient/sha.k" = some 2:=by kernel_rfl
  have n1:Tryz.prog.globalNamed "lightclient/sha.initial" = some 1:=by kernel_rfl
  obtain rfl:=Option.some.inj (n0.symm.trans hg0)
  obtain rfl:=Option.some.inj (n1.symm.trans hg1)
  obtain rfl:=Option.some.inj ((show (Tryz.prog.globals[2]?).map (·.type)=some 174 by kernel_rfl).symm.trans ht0)
  obtain rfl:=Option.some.inj ((show (Tryz.prog.globals[1]?).map (·.type)=some 163 by kernel_rfl).symm.trans ht1)
  have d0:(Rows.laid_lightclient_sha_k:DataW Unit)=Lib.tabData .u32 zsK:=by kernel_rfl
  have d1:(Rows.laid_lightclient_sha_initial:DataW Unit)=Lib.tabData .u32 zsI:=by kernel_rfl
  rw [d0] at hd0
  rw [d1] at hd1
  have c0:=Lib.cells_of_tab Tryz.underlying174 Tryz.underlying55 (by kernel_rfl) (by kernel_rfl) hd0
  have c1:=Lib.cells_of_tab Tryz.underlying163 Tryz.underlying55 (by kernel_rfl) (by kernel_rfl) hd1
  have i0:Lib.TabIs Tryz.prog W "lightclient/sha.k" .u32 zsK:=by unfold Lib.TabIs;rw [hv0,← c0]
  have i1:Lib.TabIs Tryz.prog W "lightclient/sha.initial" .u32 zsI:=by unfold Lib.TabIs;rw [hv1,← c1]
  exact ⟨kb_tab (fun i hi=>i0.cell n0 i hi) (by kernel_rfl),kb_tab (fun i hi=>i1.cell n1 i hi) (by kernel_rfl)⟩
theorem door_met (os:Os) (args:Array Value):laidMetH Tryz.prog zK ((World.doorLaid Tryz.prog 400 os).forCall (fun _ _=>0) ⟨#[],args,[]⟩).memory :=
  laidMetH_of_parts3 (fuel:=8) (laidMet_of_run' 8 (by kernel_rfl) (by kernel_rfl)) (by kernel_rfl) (by kernel_rfl)
section
variable {H : Type} {enc : TypeId × Value → H} {w : World} {base : Nat} {held : Bool} {fuel : Nat} {cs : List Value} {x : DataW H × List MemPlace}
def SzOk (t:TypeId) (d:DataW H):Prop:=∀ n∈d.weights Tryz.prog t,n≤140737488351232
theorem weights_all {P:Program} {e:TypeId} {n:Nat} {d:DataW H}:∀ {ds:List (DataW H)},d∈ds→n∈d.weights P e→n∈DataW.weightsAll P e ds
  | d0 :: ds, hd, hn => by
    rw [DataW.weightsAll]
    rcases List.mem_cons.1 hd with rfl | hd
    · exact List.mem_append.2 (Or.inl hn)
    · exact List.mem_append.2 (Or.inr (weights_all hd hn))
  | [],hd,_=>absurd hd (by simp)
theorem sJ {α:Type} [Inhabited α] {t e:TypeId} (vl:α→Value) (G:α→Prop) (ht:Tryz.prog.underlying t=some (.slice e)) (hc:Tryz.prog.cellsOf e=1) (hb:1≤Tryz.prog.bytesOf e)
    (he:∀ n v d p,DataW.trod enc Tryz.prog w base (fun _=>true) held n e [v]=some (d,p)→SzOk e d→∃ s,v=vl s∧G s)
    (h:DataW.trod enc Tryz.prog w base (fun _=>true) held fuel t cs=some x) (hz:SzOk t x.1) :
    ∃ a c,∃ l:List α,cs=[.slice a l.length c]∧l.length≤c∧l.length≤140737488351232∧Rs w a (l.map vl)∧∀ s∈l,G s:=by
  rcases Deep.open_slice1 ht hc h with ⟨rfl,_⟩ | ⟨a,len,cap,m,n,V,D,Pl,rfl,_,hl,_,hm,hx,hV⟩
  · exact ⟨none,0,[],rfl,Nat.le_refl _,by simp,Or.inl rfl,fun _ h=>absurd h (by simp)⟩
  · rw [if_pos rfl] at hm
    subst hm
    have hd:=congrArg Prod.fst hx
    unfold SzOk at hz
    rw [hd,DataW.weights,ht] at hz
    have h1:=hz _ (List.mem_cons_self)
    rw [List.length_map,List.length_range,List.length_map,List.length_range] at h1
    have h2:len≤140737488351232:=Nat.le_trans (Nat.le_trans (by omega) (Nat.le_mul_of_pos_right (len+(m-len)) hb)) h1
    have hsub:∀ i,i<len→SzOk e (D i):=fun i hi n hn=>hz n (List.mem_cons_of_mem _ (List.mem_append.2 (Or.inl (weights_all (List.mem_map.2 ⟨i,List.mem_range.2 hi,rfl⟩) hn))))
    obtain ⟨f,hf⟩:=Deep.choose_lt (n:=len) (p:=fun i s=>V i=vl s∧G s) (fun i hi=>he n (V i) (D i) (Pl i) (hV i (by omega)).2 (hsub i hi))
    refine ⟨some a,m,(List.range len).map f,by rw [List.length_map,List.length_range],by rw [List.length_map,List.length_range];exact hl,by rw [List.length_map,List.length_range];exact h2,Or.inr ⟨a,rfl,?_⟩,?_⟩
    · intro i v hv
      rw [List.map_map,List.getElem?_map,Option.map_eq_some_iff] at hv
      obtain ⟨j,hj,rfl⟩:=hv
      have hi:i<len:=by have:=(List.getElem?_eq_some_iff.1 hj).1;rwa [List.length_range] at this
      rw [List.getElem?_range hi] at hj
      obtain rfl:=Option.some.inj hj
      rw [(hV i (by omega)).1,(hf i hi).1];rfl
    · intro s hs
      obtain ⟨i,hi,rfl⟩:=List.mem_map.1 hs
      exact (hf i (List.mem_range.1 hi)).2
theorem open_b1 {n:Nat} {v:Value} {d:DataW H} {p:List MemPlace} (h:DataW.trod enc Tryz.prog w base (fun _=>true) held n 37 [v]=some (d,p)) (hz:SzOk 37 d):∃ s:bI,v=s.v∧Bs w s.a s.c s.b:=by
  obtain ⟨a,c,l,h1,h2,h3,h4,_⟩:=sJ bv (fun _=>True) Tryz.underlying37 (by kernel_rfl) (Nat.le_of_ble_eq_true (by kernel_rfl)) (fun n v d p hh _=>by
    obtain ⟨z,g1,_,g2⟩:=DataW.trod_int Tryz.underlying5 hh
    have hw:0≤z∧z<256:=by simp [Lit.wf,IntKind.min,IntKind.max,IntKind.signed,IntKind.bits] at g2;omega
    exact ⟨ob z,(by rw [zW hw];exact List.head_eq_of_cons_eq g1),trivial⟩) h hz
  exact ⟨⟨a,c,l⟩,List.head_eq_of_cons_eq h1,h2,h3,h4⟩
theorem open_w1 {n:Nat} {v:Value} {d:DataW H} {p:List MemPlace} (h:DataW.trod enc Tryz.prog w base (fun _=>true) held n 29 [v]=some (d,p)) (hz:SzOk 29 d):∃ s:kF,v=.slice s.a s.l.length s.c∧bU w s.a s.c s.l:=by
  obtain ⟨a,c,l,h1,h2,h3,h4,h5⟩:=sJ bI.v (fun s=>Bs w s.a s.c s.b) Tryz.underlying29 (by kernel_rfl) (Nat.le_of_ble_eq_true (by kernel_rfl)) (fun _ _ _ _ hh hz=>open_b1 hh hz) h hz
  exact ⟨⟨a,c,l⟩,List.head_eq_of_cons_eq h1,h2,h3,by rw [kW_r];exact h4,h5⟩
end
theorem open_lss {H:Type} {enc:TypeId × Value→H} {w:World} {r:Reach} {base base':Nat} {held:Bool} {v:Value} {d:DataW H} {p:List MemPlace}
    (hok:Value.okWide Tryz.prog w r base 48 v) (h:DataW.Trod enc Tryz.prog w base' (fun _=>true) held 48 v d p) (hz:SzOk 48 d) :
    ∃ a c l,v=.slice a (List.length l) c∧LsF w a c l:=by
  obtain ⟨a0,len,cap,rfl⟩:=okWide_slice Tryz.underlying48 hok
  obtain ⟨fuel,hf⟩:=h
  obtain ⟨a,c,l,h1,h2,h3,h4,h5⟩:=sJ (fun s:kF=>.slice s.a s.l.length s.c) (fun s=>bU w s.a s.c s.l) Tryz.underlying48 (by kernel_rfl) (Nat.le_of_ble_eq_true (by kernel_rfl)) (fun _ _ _ _ hh hz=>open_w1 hh hz) hf hz
  exact ⟨a,c,l,List.head_eq_of_cons_eq h1,h2,h3,by rw [kX_r];exact h4,h5⟩
end Go.Proofs.YtahoheofpggopaaGreatDoor
