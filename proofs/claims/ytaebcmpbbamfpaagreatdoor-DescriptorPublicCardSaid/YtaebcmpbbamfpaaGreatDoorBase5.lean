/-
  What this statement needs, part 5: the texts of it, one behind the other.
-/
import Derived.Test.YtaebcmpbbamfpaaGreatDoorBase4
set_option maxRecDepth 100000
namespace Go.Proofs.YtaebcmpbbamfpaaGreatDoor
open Go Go.RowKit
def mkO (s : Mk) : Obj := (.cells #[(.slice s.ta (s.ts).length s.tc), (.slice s.ka (s.ns).length s.kc)] 64 (0, 0))
def NextC (g : Nat) (s : Mk) (b : List UInt8) (s' : Mk) : Prop := ∀ w0 : World, Knows [(g, mkO s)] w0 → Pers (fun x => x ∈ ([(g, mkO s)] : List (Nat × Obj)).map (·.1)) (fun w => TmF w s.ta s.tc s.ts ∧ Us w s.ka s.kc s.ns ∧ True) w0 → Calls Tryz.prog 26 #[(pt g)] w0 (fun ε w' => ∃ α κ, ε = .returned (.tuple #[.slice α (b).length κ, .int .i64 0]) ∧ Upd (fun b => b ∈ ([(g, mkO s)] : List (Nat × Obj)).map (·.1)) w0 w' ∧ Knows [(g, mkO s')] w' ∧ Fs w0 w' α κ (b))
theorem next1_any (g : Nat) (s : Mk) (hk : s.fst.kd = 1) (hc : s.can = true) (_ho : TsOk s.ts) (hU : ∀ n ∈ s.ns, n < M) (w0 : World) (hK : Knows [(g, (cL #[(.slice s.ta (s.ts).length s.tc), (.slice s.ka (s.ns).length s.kc)] 64))] w0) (hP : Pers (fun b => b ∈ ([(g, (cL #[(.slice s.ta (s.ts).length s.tc), (.slice s.ka (s.ns).length s.kc)] 64))] : List (Nat × Obj)).map (·.1)) (fun w => TmF w s.ta s.tc s.ts ∧ Us w s.ka s.kc s.ns ∧ True) w0) : Calls Tryz.prog 26 #[(pt g)] w0 (fun ε w' => ∃ α κ, ε = .returned (.tuple #[.slice α (sgB (s.ns.getD 0 0)).length κ, .int .i64 0]) ∧ Upd (fun b => b ∈ ([(g, (cL #[(.slice s.ta (s.ts).length s.tc), (.slice s.ka (s.ns).length s.kc)] 64))] : List (Nat × Obj)).map (·.1)) w0 w' ∧ Knows [(g, (cL #[(.slice s.go.ta (s.go.ts).length s.go.tc), (.slice s.go.ka (s.go.ns).length s.go.kc)] 64))] w' ∧ Fs w0 w' α κ (sgB (s.ns.getD 0 0))) := by
 refine Calls.of_okW (n := 97) (F := (fun w => TmF w s.ta s.tc s.ts ∧ Us w s.ka s.kc s.ns ∧ True)) [(g, (cL #[(.slice s.ta (s.ts).length s.tc), (.slice s.ka (s.ns).length s.kc)] 64))] Tryz.func26 rfl rfl rfl (by simp) hK (by simp) hP ?_
 refine sS Tryz.f26 2 [0, 2, 3] [] (fun _ => [(.slice none 0 0), (vi 0)]) (fun _ => []) (cR [[], []] <| cN) (fun _ => ?_)
 refine sS Tryz.f26 8 [0, 2, 3, 4] [] (fun ρ => [(pt g), (pt g), (pt g), (.slice s.ta (s.ts).length s.tc), (.pointer (adr s.ta (0 * 36))), (.agg (TmA.row (gT s.ts 0))), (pt (nb ρ 6)), undef]) (fun ρ => [(6, (nw ρ 6 (cL (tmV 0 0 0 0 (.slice none 0 0)) 46))), (7, (pwt 49 (nb ρ 6) (cL (TmA.row (gT s.ts 0)) 46)))]) (cR [[], [], [], [0]] <| cX (qF (fun _ _ _ hG => TmF.idx (k := .i64) Tryz.underlying24 Tryz.sizeOf46 hG.facts0.now.1 rfl ((show (0 : Int) = ((0 : Nat) : Int) ∧ 0 < (s.ts).length from ⟨rfl, can_pos hc⟩)).1 ((show (0 : Int) = ((0 : Nat) : Int) ∧ 0 < (s.ts).length from ⟨rfl, can_pos hc⟩)).2)) <| cX (qF (fun _ _ _ hG => TmF.ldA (i := 0) Tryz.isAgg46 Tryz.sizeOf46 hG.facts0.now.1 ((show (0 : Int) = ((0 : Nat) : Int) ∧ 0 < (s.ts).length from ⟨rfl, can_pos hc⟩)).2)) <| cR [[], [49]] <| cN) (fun ρ2 => ?_)
 refine sSf Tryz.f26 9 [0, 2, 3, 4] [] (fun _ => [(pt g), (pt g), (pt g), (pt g), (.slice s.ta (s.ts).length s.tc), (.slice (if s.tc = 1 then s.ta else (s.ta).map (·.add (1 * 36))) ((s.ts).tail).length (s.tc - 1)), (pt g), (pt g), undef]) (fun _ => [(8, (pwt 0 g (cL #[(.slice (if s.tc = 1 then s.ta else (s.ta).map (·.add (1 * 36))) ((s.ts).tail).length (s.tc - 1)), (.slice s.ka (s.ns).length s.kc)] 64)))]) (fun _ => [(5, fun w => TmF w (if s.tc = 1 then s.ta else (s.ta).map (·.add (1 * 36))) (s.tc - 1) ((s.ts).tail))]) (fun _ => (fun w => TmF w s.ta s.tc s.ts ∧ Us w s.ka s.kc s.ns ∧ TmF w (if s.tc = 1 then s.ta else (s.ta).map (·.add (1 * 36))) (s.tc - 1) ((s.ts).tail) ∧ True)) (fun _ => True) (fun _ _ hF hf => ⟨⟨hF.1, hF.2.1, hf 5, trivial⟩, trivial⟩) (cR [[], [], [], [], [0]] <| cX (o_semF _ (fun _ => do pure (Next.value (← Instr.sliceAt 24 (.slice s.ta (s.ts).length s.tc) (some (vi 1)) none none))) (fun _ => (.slice (if s.tc = 1 then s.ta else (s.ta).map (·.add (1 * 36))) ((s.ts).tail).length (s.tc - 1))) (fun _ => (by kernel_rfl)) (fun _ => (by kernel_rfl)) (fun _ _ _ hG => slice_lo (k := 1) Tryz.underlying24 Tryz.sizeOf46 rfl (congrArg (Value.int .i64) (rfl)) (can_pos hc) (hG.facts0.now.1).le (by rw [List.length_tail])) (fun _ _ w hG => (hG.facts0).mono (fun _ hF => (hF.1).tail (can_pos hc)))) <| cR [[], [], [0]] <| cN) (fun _ _ => ?_)
 refine sDf Tryz.f26 [0, 1, 3, 7, 0, 16, 48, 127, 255] 9 [0, 2, 3, 4, 5] [] (fun _ => [(pt g), (pt g), (.pointer (some ⟨g, 1, none⟩)), (.slice s.ka (s.ns).length s.kc), (.pointer (some ⟨nb ρ2 6, 35, none⟩)), (.slice ((gT s.ts 0).ka) ((gT s.ts 0).ks).length ((gT s.ts 0).kc)), (vn (((gT s.ts 0).ks).length)), (.slice s.ka ((s.ns).take (((gT s.ts 0).ks).length)).length s.kc), (.slice s.ka ((s.ns).take (((gT s.ts 0).ks).length)).length s.kc)]) (fun _ => []) (fun _ => [(7, fun w => Us w s.ka s.kc ((s.ns).take (((gT s.ts 0).ks).length)))]) (fun _ => (fun w => TmF w s.ta s.tc s.ts ∧ Us w s.ka s.kc s.ns ∧ TmF w (if s.tc = 1 then s.ta else (s.ta).map (·.add (1 * 36))) (s.tc - 1) ((s.ts).tail) ∧ Us w s.ka s.kc ((s.ns).take (((gT s.ts 0).ks).length)) ∧ True)) (fun _ => True) (fun _ _ hF hf => ⟨⟨hF.1, hF.2.1, hF.2.2.1, hf 7, trivial⟩, trivial⟩) (cR [[], [], [], [0], [], [1], []] <| cX (o_semF _ (fun _ => do pure (Next.value (← Instr.sliceAt 29 (.slice s.ka (s.ns).length s.kc) none (some (vn (((gT s.ts 0).ks).length))) none))) (fun _ => (.slice s.ka ((s.ns).take (((gT s.ts 0).ks).length)).length s.kc)) (fun _ => (by kernel_rfl)) (fun _ => (by kernel_rfl)) (fun _ _ _ hG => slice_hi (k := ((gT s.ts 0).ks).length) Tryz.underlying29 Tryz.sizeOf39 rfl (congrArg (Value.int .i64) (rfl)) (can_ks hc) (hG.facts0.now.2.1).le (by rw [List.length_take]; exact (Nat.min_eq_left (can_ks hc)).symm)) (fun _ _ w hG => (hG.facts0).mono (fun _ hF => (hF.2.1).take (((gT s.ts 0).ks).length)))) <| cR [[]] <| cN) (fun _ _ => ?_)
 refine sDf Tryz.f26 [0, 0, 2, 6, 14, 0, 32, 96, 254, 511, 1023, 2047] 12 [0, 2, 3, 4, 5] [] (fun _ => [(pt g), (pt g), (pt g), (.pointer (some ⟨g, 1, none⟩)), (.slice s.ka (s.ns).length s.kc), (.pointer (some ⟨nb ρ2 6, 35, none⟩)), (.slice ((gT s.ts 0).ka) ((gT s.ts 0).ks).length ((gT s.ts 0).kc)), (vn (((gT s.ts 0).ks).length)), (.slice (if s.kc = (((gT s.ts 0).ks).length) then s.ka else (s.ka).map (·.add ((((gT s.ts 0).ks).length) * 4))) ((s.ns).drop (((gT s.ts 0).ks).length)).length (s.kc - (((gT s.ts 0).ks).length))), (pt g), (.pointer (some ⟨g, 1, none⟩)), undef]) (fun _ => [(11, (pwt 0 g (cL #[(.slice (if s.tc = 1 then s.ta else (s.ta).map (·.add (1 * 36))) ((s.ts).tail).length (s.tc - 1)), (.slice (if s.kc = (((gT s.ts 0).ks).length) then s.ka else (s.ka).map (·.add ((((gT s.ts 0).ks).length) * 4))) ((s.ns).drop (((gT s.ts 0).ks).length)).length (s.kc - (((gT s.ts 0).ks).length)))] 64)))]) (fun _ => [(8, fun w => Us w (if s.kc = (((gT s.ts 0).ks).length) then s.ka else (s.ka).map (·.add ((((gT s.ts 0).ks).length) * 4))) (s.kc - (((gT s.ts 0).ks).length)) ((s.ns).drop (((gT s.ts 0).ks).length)))]) (fun _ => (fun w => TmF w s.ta s.tc s.ts ∧ Us w s.ka s.kc s.ns ∧ TmF w (if s.tc = 1 then s.ta else (s.ta).map (·.add (1 * 36))) (s.tc - 1) ((s.ts).tail) ∧ Us w s.ka s.kc ((s.ns).take (((gT s.ts 0).ks).length)) ∧ Us w (if s.kc = (((gT s.ts 0).ks).length) then s.ka else (s.ka).map (·.add ((((gT s.ts 0).ks).length) * 4))) (s.kc - (((gT s.ts 0).ks).length)) ((s.ns).drop (((gT s.ts 0).ks).length)) ∧ True)) (fun _ => True) (fun _ _ hF hf => ⟨⟨hF.1, hF.2.1, hF.2.2.1, hF.2.2.2.1, hf 8, trivial⟩, trivial⟩) (cR [[], [], [], [], [0], [], [1], []] <| cX (o_semF _ (fun _ => do pure (Next.value (← Instr.sliceAt 29 (.slice s.ka (s.ns).length s.kc) (some (vn (((gT s.ts 0).ks).length))) none none))) (fun _ => (.slice (if s.kc = (((gT s.ts 0).ks).length) then s.ka else (s.ka).map (·.add ((((gT s.ts 0).ks).length) * 4))) ((s.ns).drop (((gT s.ts 0).ks).length)).length (s.kc - (((gT s.ts 0).ks).length)))) (fun _ => (by kernel_rfl)) (fun _ => (by kernel_rfl)) (fun _ _ _ hG => slice_lo (k := ((gT s.ts 0).ks).length) Tryz.underlying29 Tryz.sizeOf39 rfl (congrArg (Value.int .i64) (rfl)) (can_ks hc) (hG.facts0.now.2.1).le (by rw [List.length_drop])) (fun _ _ w hG => (hG.facts0).mono (fun _ hF => (hF.2.1).drop (can_ks hc)))) <| cR [[], [], [0]] <| cN) (fun _ _ => ?_)
 refine ok_seq ?_
 refine sS Tryz.f26 2 [0, 2, 3, 4, 5, 43] [] (fun _ => [(pt (nb ρ2 6)), (vi ((gT s.ts 0).kd))]) (fun _ => []) (cR [[], [1]] <| cN) (fun _ => ?_)
 refine ok_block ?_
 refine sS Tryz.f26 2 [0, 2, 3, 4, 5, 43, 44] [] (fun _ => [(.bool true), (.bool true)]) (fun _ => []) (cA (v := fun ρ => (.bool (((gT s.ts 0).kd) == 1))) (fun _ => (.bool true)) (fun _ => congrArg Value.bool (show (((gT s.ts 0).kd) == 1) = true by rw [show (gT s.ts 0).kd = 1 from hk]; rfl)) <| cR [[]] <| cN) (fun _ => ?_)
 refine dRs [(0, (pt g)), (2, (.slice none 0 0)), (3, (vi 0)), (4, (pt (nb ρ2 6))), (5, (.slice s.ka ((s.ns).take (((gT s.ts 0).ks).length)).length s.kc)), (43, (vi ((gT s.ts 0).kd))), (44, (.bool true))] [(g, (cL #[(.slice (if s.tc = 1 then s.ta else (s.ta).map (·.add (1 * 36))) ((s.ts).tail).length (s.tc - 1)), (.slice (if s.kc = (((gT s.ts 0).ks).length) then s.ka else (s.ka).map (·.add ((((gT s.ts 0).ks).length) * 4))) ((s.ns).drop (((gT s.ts 0).ks).length)).length (s.kc - (((gT s.ts 0).ks).length)))] 64)), (nb ρ2 6, (cL (TmA.row (gT s.ts 0)) 46))] ?_
 refine oY ?_
 refine sSf Tryz.f26 6 [0, 2, 3, 4] [] (fun ρ => [(.slice s.ka ((s.ns).take (((gT s.ts 0).ks).length)).length s.kc), (.pointer (adr s.ka (0 * 4))), (U (gU ((s.ns).take (((gT s.ts 0).ks).length)) 0)), (.slice (oa ρ 3) (sgB (gU ((s.ns).take (((gT s.ts 0).ks).length)) 0)).length (nb ρ 3)), (.slice (oa ρ 3) (sgB (gU ((s.ns).take (((gT s.ts 0).ks).length)) 0)).length (nb ρ 3)), (vi 0)]) (fun _ => []) (fun ρ => [(3, fun w => Fs w0 w (oa ρ 3) (nb ρ 3) (sgB (gU ((s.ns).take (((gT s.ts 0).ks).length)) 0)))]) (fun ρ => (fun w => TmF w s.ta s.tc s.ts ∧ Us w s.ka s.kc s.ns ∧ TmF w (if s.tc = 1 then s.ta else (s.ta).map (·.add (1 * 36))) (s.tc - 1) ((s.ts).tail) ∧ Us w s.ka s.kc ((s.ns).take (((gT s.ts 0).ks).length)) ∧ Us w (if s.kc = (((gT s.ts 0).ks).length) then s.ka else (s.ka).map (·.add ((((gT s.ts 0).ks).length) * 4))) (s.kc - (((gT s.ts 0).ks).length)) ((s.ns).drop (((gT s.ts 0).ks).length)) ∧ Fs w0 w (oa ρ 3) (nb ρ 3) (sgB (gU ((s.ns).take (((gT s.ts 0).ks).length)) 0)) ∧ True)) (fun _ => True) (fun _ _ hF hf => ⟨⟨hF.1, hF.2.1, hF.2.2.1, hF.2.2.2.1, hF.2.2.2.2.1, hf 3, trivial⟩, trivial⟩) (cR [[]] <| cX (qF (fun _ _ _ hG => Us.idx (k := .i64) Tryz.underlying29 Tryz.sizeOf39 hG.facts0.now.2.2.2.1 rfl ((show (0 : Int) = ((0 : Nat) : Int) ∧ 0 < ((s.ns).take (((gT s.ts 0).ks).length)).length from ⟨rfl, (by rw [List.length_take]; have e : (gT s.ts 0).ks.length = s.fst.ks.length := rfl; have := can_ks hc; have h1 : 0 < s.fst.ks.length := (by have := can_fd hc; unfold FdP at this; have := hk; omega); omega)⟩)).1 ((show (0 : Int) = ((0 : Nat) : Int) ∧ 0 < ((s.ns).take (((gT s.ts 0).ks).length)).length from ⟨rfl, (by rw [List.length_take]; have e : (gT s.ts 0).ks.length = s.fst.ks.length := rfl; have := can_ks hc; have h1 : 0 < s.fst.ks.length := (by have := can_fd hc; unfold FdP at this; have := hk; omega); omega)⟩)).2)) <| cX (qF (fun _ _ _ hG => Us.ldA Tryz.isAgg39 Tryz.sizeOf39 hG.facts0.now.2.2.2.1 ((show (0 : Int) = ((0 : Nat) : Int) ∧ 0 < ((s.ns).take (((gT s.ts 0).ks).length)).length from ⟨rfl, (by rw [List.length_take]; have e : (gT s.ts 0).ks.length = s.fst.ks.length := rfl; have := can_ks hc; have h1 : 0 < s.fst.ks.length := (by have := can_fd hc; unfold FdP at this; have := hk; omega); omega)⟩)).2)) <| cX (qB (fun _ _ w _ => single_any (gU ((s.ns).take (((gT s.ts 0).ks).length)) 0) (gU_ok (fun n hn => hU n (List.mem_of_mem_take hn)) 0) w )) <| cR [[], []] <| cN) (fun ρ8 _ => ?_)
 refine ok_ret ?_
 refine mt_block_r ?_
 refine mt_then_r ?_
 refine mD [(0, (pt g)), (2, (.slice (oa ρ8 3) (sgB (gU ((s.ns).take (((gT s.ts 0).ks).length)) 0)).length (nb ρ8 3))), (3, (vi 0)), (4, (pt (nb ρ2 6)))] [(g, (cL #[(.slice (if s.tc = 1 then s.ta else (s.ta).map (·.add (1 * 36))) ((s.ts).tail).length (s.tc - 1)), (.slice (if s.kc = (((gT s.ts 0).ks).length) then s.ka else (s.ka).map (·.add ((((gT s.ts 0).ks).length) * 4))) ((s.ns).drop (((gT s.ts 0).ks).length)).length (s.kc - (((gT s.ts 0).ks).length)))] 64)), (nb ρ2 6, (cL (TmA.row (gT s.ts 0)) 46))] ?_
 exact mR (v := (.tuple #[(.slice (oa ρ8 3) (sgB (gU ((s.ns).take (((gT s.ts 0).ks).length)) 0)).length (nb ρ8 3)), (vi 0)])) (fun _ hS => ⟨oa ρ8 3, nb ρ8 3, congrArg (fun z : List UInt8 => Ending.returned (.tuple #[.slice _ z.length _, .int .i64 0])) (congrArg sgB (gU_take (show 0 < s.fst.ks.length from (by have := can_fd hc; unfold FdP at this; have := hk; omega)))), hS.below, hS.knows [1, 0], fs_eq (congrArg sgB (gU_take (show 0 < s.fst.ks.length from (by have := can_fd hc; unfold FdP at this; have := hk; omega)))) hS.facts.now.2.2.2.2.2.1⟩)
theorem next2_any (g : Nat) (s : Mk) (hk : s.fst.kd = 2) (hc : s.can = true) (_ho : TsOk s.ts) (hU : ∀ n ∈ s.ns, n < M) (h2 : s.fst.ks.length = 2) (w0 : World) (hK : Knows [(g, (cL #[(.slice s.ta (s.ts).length s.tc), (.slice s.ka (s.ns).length s.kc)] 64))] w0) (hP : Pers (fun b => b ∈ ([(g, (cL #[(.slice s.ta (s.ts).length s.tc), (.slice s.ka (s.ns).length s.kc)] 64))] : List (Nat × Obj)).map (·.1)) (fun w => TmF w s.ta s.tc s.ts ∧ Us w s.ka s.kc s.ns ∧ True) w0) : Calls Tryz.prog 26 #[(pt g)] w0 (fun ε w' => ∃ α κ, ε = .returned (.tuple #[.slice α (mlB s.fst.m (s.ns.take s.fst.ks.length)).length κ, .int .i64 0]) ∧ Upd (fun b => b ∈ ([(g, (cL #[(.slice s.ta (s.ts).length s.tc), (.slice s.ka (s.ns).length s.kc)] 64))] : List (Nat × Obj)).map (·.1)) w0 w' ∧ Knows [(g, (cL #[(.slice s.go.ta (s.go.ts).length s.go.tc), (.slice s.go.ka (s.go.ns).length s.go.kc)] 64))] w' ∧ Fs w0 w' α κ (mlB s.fst.m (s.ns.take s.fst.ks.length))) := by
 refine Calls.of_okW (n := 97) (F := (fun w => TmF w s.ta s.tc s.ts ∧ Us w s.ka s.kc s.ns ∧ True)) [(g, (cL #[(.slice s.ta (s.ts).length s.tc), (.slice s.ka (s.ns).length s.kc)] 64))] Tryz.func26 rfl rfl rfl (by simp) hK (by simp) hP ?_
 refine sS Tryz.f26 2 [0, 2, 3] [] (fun _ => [(.slice none 0 0), (vi 0)]) (fun _ => []) (cR [[], []] <| cN) (fun _ => ?_)
 refine sS Tryz.f26 8 [0, 2, 3, 4] [] (fun ρ => [(pt g), (pt g), (pt g), (.slice s.ta (s.ts).length s.tc), (.pointer (adr s.ta (0 * 36))), (.agg (TmA.row (gT s.ts 0))), (pt (nb ρ 6)), undef]) (fun ρ => [(6, (nw ρ 6 (cL (tmV 0 0 0 0 (.slice none 0 0)) 46))), (7, (pwt 49 (nb ρ 6) (cL (TmA.row (gT s.ts 0)) 46)))]) (cR [[], [], [], [0]] <| cX (qF (fun _ _ _ hG => TmF.idx (k := .i64) Tryz.underlying24 Tryz.sizeOf46 hG.facts0.now.1 rfl ((show (0 : Int) = ((0 : Nat) : Int) ∧ 0 < (s.ts).length from ⟨rfl, can_pos hc⟩)).1 ((show (0 : Int) = ((0 : Nat) : Int) ∧ 0 < (s.ts).length from ⟨rfl, can_pos hc⟩)).2)) <| cX (qF (fun _ _ _ hG => TmF.ldA (i := 0) Tryz.isAgg46 Tryz.sizeOf46 hG.facts0.now.1 ((show (0 : Int) = ((0 : Nat) : Int) ∧ 0 < (s.ts).length from ⟨rfl, can_pos hc⟩)).2)) <| cR [[], [49]] <| cN) (fun ρ2 => ?_)
 refine sSf Tryz.f26 9 [0, 2, 3, 4] [] (fun _ => [(pt g), (pt g), (pt g), (pt g), (.slice s.ta (s.ts).length s.tc), (.slice (if s.tc = 1 then s.ta else (s.ta).map (·.add (1 * 36))) ((s.ts).tail).length (s.tc - 1)), (pt g), (pt g), undef]) (fun _ => [(8, (pwt 0 g (cL #[(.slice (if s.tc = 1 then s.ta else (s.ta).map (·.add (1 * 36))) ((s.ts).tail).length (s.tc - 1)), (.slice s.ka (s.ns).length s.kc)] 64)))]) (fun _ => [(5, fun w => TmF w (if s.tc = 1 then s.ta else (s.ta).map (·.add (1 * 36))) (s.tc - 1) ((s.ts).tail))]) (fun _ => (fun w => TmF w s.ta s.tc s.ts ∧ Us w s.ka s.kc s.ns ∧ TmF w (if s.tc = 1 then s.ta else (s.ta).map (·.add (1 * 36))) (s.tc - 1) ((s.ts).tail) ∧ True)) (fun _ => True) (fun _ _ hF hf => ⟨⟨hF.1, hF.2.1, hf 5, trivial⟩, trivial⟩) (cR [[], [], [], [], [0]] <| cX (o_semF _ (fun _ => do pure (Next.value (← Instr.sliceAt 24 (.slice s.ta (s.ts).length s.tc) (some (vi 1)) none none))) (fun _ => (.slice (if s.tc = 1 then s.ta else (s.ta).map (·.add (1 * 36))) ((s.ts).tail).length (s.tc - 1))) (fun _ => (by kernel_rfl)) (fun _ => (by kernel_rfl)) (fun _ _ _ hG => slice_lo (k := 1) Tryz.underlying24 Tryz.sizeOf46 rfl (congrArg (Value.int .i64) (rfl)) (can_pos hc) (hG.facts0.now.1).le (by rw [List.length_tail])) (fun _ _ w hG => (hG.facts0).mono (fun _ hF => (hF.1).tail (can_pos hc)))) <| cR [[], [], [0]] <| cN) (fun _ _ => ?_)
 refine sDf Tryz.f26 [0, 1, 3, 7, 0, 16, 48, 127, 255] 9 [0, 2, 3, 4, 5] [] (fun _ => [(pt g), (pt g), (.pointer (some ⟨g, 1, none⟩)), (.slice s.ka (s.ns).length s.kc), (.pointer (some ⟨nb ρ2 6, 35, none⟩)), (.slice ((gT s.ts 0).ka) ((gT s.ts 0).ks).length ((gT s.ts 0).kc)), (vn (((gT s.ts 0).ks).length)), (.slice s.ka ((s.ns).take (((gT s.ts 0).ks).length)).length s.kc), (.slice s.ka ((s.ns).take (((gT s.ts 0).ks).length)).length s.kc)]) (fun _ => []) (fun _ => [(7, fun w => Us w s.ka s.kc ((s.ns).take (((gT s.ts 0).ks).length)))]) (fun _ => (fun w => TmF w s.ta s.tc s.ts ∧ Us w s.ka s.kc s.ns ∧ TmF w (if s.tc = 1 then s.ta else (s.ta).map (·.add (1 * 36))) (s.tc - 1) ((s.ts).tail) ∧ Us w s.ka s.kc ((s.ns).take (((gT s.ts 0).ks).length)) ∧ True)) (fun _ => True) (fun _ _ hF hf => ⟨⟨hF.1, hF.2.1, hF.2.2.1, hf 7, trivial⟩, trivial⟩) (cR [[], [], [], [0], [], [1], []] <| cX (o_semF _ (fun _ => do pure (Next.value (← Instr.sliceAt 29 (.slice s.ka (s.ns).length s.kc) none (some (vn (((gT s.ts 0).ks).length))) none))) (fun _ => (.slice s.ka ((s.ns).take (((gT s.ts 0).ks).length)).length s.kc)) (fun _ => (by kernel_rfl)) (fun _ => (by kernel_rfl)) (fun _ _ _ hG => slice_hi (k := ((gT s.ts 0).ks).length) Tryz.underlying29 Tryz.sizeOf39 rfl (congrArg (Value.int .i64) (rfl)) (can_ks hc) (hG.facts0.now.2.1).le (by rw [List.length_take]; exact (Nat.min_eq_left (can_ks hc)).symm)) (fun _ _ w hG => (hG.facts0).mono (fun _ hF => (hF.2.1).take (((gT s.ts 0).ks).length)))) <| cR [[]] <| cN) (fun _ _ => ?_)
 refine sDf Tryz.f26 [0, 0, 2, 6, 14, 0, 32, 96, 254, 511, 1023, 2047] 12 [0, 2, 3, 4, 5] [] (fun _ => [(pt g), (pt g), (pt g), (.pointer (some ⟨g, 1, none⟩)), (.slice s.ka (s.ns).length s.kc), (.pointer (some ⟨nb ρ2 6, 35, none⟩)), (.slice ((gT s.ts 0).ka) ((gT s.ts 0).ks).length ((gT s.ts 0).kc)), (vn (((gT s.ts 0).ks).length)), (.slice (if s.kc = (((gT s.ts 0).ks).length) then s.ka else (s.ka).map (·.add ((((gT s.ts 0).ks).length) * 4))) ((s.ns).drop (((gT s.ts 0).ks).length)).length (s.kc - (((gT s.ts 0).ks).length))), (pt g), (.pointer (some ⟨g, 1, none⟩)), undef]) (fun _ => [(11, (pwt 0 g (cL #[(.slice (if s.tc = 1 then s.ta else (s.ta).map (·.add (1 * 36))) ((s.ts).tail).length (s.tc - 1)), (.slice (if s.kc = (((gT s.ts 0).ks).length) then s.ka else (s.ka).map (·.add ((((gT s.ts 0).ks).length) * 4))) ((s.ns).drop (((gT s.ts 0).ks).length)).length (s.kc - (((gT s.ts 0).ks).length)))] 64)))]) (fun _ => [(8, fun w => Us w (if s.kc = (((gT s.ts 0).ks).length) then s.ka else (s.ka).map (·.add ((((gT s.ts 0).ks).length) * 4))) (s.kc - (((gT s.ts 0).ks).length)) ((s.ns).drop (((gT s.ts 0).ks).length)))]) (fun _ => (fun w => TmF w s.ta s.tc s.ts ∧ Us w s.ka s.kc s.ns ∧ TmF w (if s.tc = 1 then s.ta else (s.ta).map (·.add (1 * 36))) (s.tc - 1) ((s.ts).tail) ∧ Us w s.ka s.kc ((s.ns).take (((gT s.ts 0).ks).length)) ∧ Us w (if s.kc = (((gT s.ts 0).ks).length) then s.ka else (s.ka).map (·.add ((((gT s.ts 0).ks).length) * 4))) (s.kc - (((gT s.ts 0).ks).length)) ((s.ns).drop (((gT s.ts 0).ks).length)) ∧ True)) (fun _ => True) (fun _ _ hF hf => ⟨⟨hF.1, hF.2.1, hF.2.2.1, hF.2.2.2.1, hf 8, trivial⟩, trivial⟩) (cR [[], [], [], [], [0], [], [1], []] <| cX (o_semF _ (fun _ => do pure (Next.value (← Instr.sliceAt 29 (.slice s.ka (s.ns).length s.kc) (some (vn (((gT s.ts 0).ks).length))) none none))) (fun _ => (.slice (if s.kc = (((gT s.ts 0).ks).length) then s.ka else (s.ka).map (·.add ((((gT s.ts 0).ks).length) * 4))) ((s.ns).drop (((gT s.ts 0).ks).length)).length (s.kc - (((gT s.ts 0).ks).length)))) (fun _ => (by kernel_rfl)) (fun _ => (by kernel_rfl)) (fun _ _ _ hG => slice_lo (k := ((gT s.ts 0).ks).length) Tryz.underlying29 Tryz.sizeOf39 rfl (congrArg (Value.int .i64) (rfl)) (can_ks hc) (hG.facts0.now.2.1).le (by rw [List.length_drop])) (fun _ _ w hG => (hG.facts0).mono (fun _ hF => (hF.2.1).drop (can_ks hc)))) <| cR [[], [], [0]] <| cN) (fun _ _ => ?_)
 refine ok_seq ?_
 refine sS Tryz.f26 2 [0, 2, 3, 4, 5, 43] [] (fun _ => [(pt (nb ρ2 6)), (vi ((gT s.ts 0).kd))]) (fun _ => []) (cR [[], [1]] <| cN) (fun _ => ?_)
 refine ok_block ?_
 refine sS Tryz.f26 2 [0, 2, 3, 4, 5, 43, 44] [] (fun _ => [(.bool false), (.bool false)]) (fun _ => []) (cA (v := fun ρ => (.bool (((gT s.ts 0).kd) == 1))) (fun _ => (.bool false)) (fun _ => congrArg Value.bool (show (((gT s.ts 0).kd) == 1) = false by rw [show (gT s.ts 0).kd = 2 from hk]; rfl)) <| cR [[]] <| cN) (fun _ => ?_)
 refine dRs [(0, (pt g)), (2, (.slice none 0 0)), (3, (vi 0)), (4, (pt (nb ρ2 6))), (5, (.slice s.ka ((s.ns).take (((gT s.ts 0).ks).length)).length s.kc)), (43, (vi ((gT s.ts 0).kd))), (44, (.bool false))] [(g, (cL #[(.slice (if s.tc = 1 then s.ta else (s.ta).map (·.add (1 * 36))) ((s.ts).tail).length (s.tc - 1)), (.slice (if s.kc = (((gT s.ts 0).ks).length) then s.ka else (s.ka).map (·.add ((((gT s.ts 0).ks).length) * 4))) ((s.ns).drop (((gT s.ts 0).ks).length)).length (s.kc - (((gT s.ts 0).ks).length)))] 64)), (nb ρ2 6, (cL (TmA.row (gT s.ts 0)) 46))] ?_
 refine oN ?_
 refine sS Tryz.f26 2 [0, 2, 3, 4, 5, 50] [] (fun _ => [(.bool true), (.bool true)]) (fun _ => []) (cA (v := fun ρ => (.bool (((gT s.ts 0).kd) == 2))) (fun _ => (.bool true)) (fun _ => congrArg Value.bool (show (((gT s.ts 0).kd) == 2) = true by rw [show (gT s.ts 0).kd = 2 from hk]; rfl)) <| cR [[]] <| cN) (fun _ => ?_)
 refine oY ?_
 refine sSf Tryz.f26 8 [0, 2, 3, 4] [] (fun ρ => [(.pointer (some ⟨nb ρ2 6, 1, none⟩)), (vi ((gT s.ts 0).m)), (.slice s.ka ((s.ns).take (((gT s.ts 0).ks).length)).length s.kc), (.tuple #[(.slice (oa ρ 3) (mlB ((gT s.ts 0).m) ((s.ns).take (((gT s.ts 0).ks).length))).length (nb ρ 3)), (vi 0)]), (.slice (oa ρ 3) (mlB ((gT s.ts 0).m) ((s.ns).take (((gT s.ts 0).ks).length))).length (nb ρ 3)), (vi 0), (.slice (oa ρ 3) (mlB ((gT s.ts 0).m) ((s.ns).take (((gT s.ts 0).ks).length))).length (nb ρ 3)), (vi 0)]) (fun _ => []) (fun ρ => [(3, fun w => Fs w0 w (oa ρ 3) (nb ρ 3) (mlB ((gT s.ts 0).m) ((s.ns).take (((gT s.ts 0).ks).length))))]) (fun ρ => (fun w => TmF w s.ta s.tc s.ts ∧ Us w s.ka s.kc s.ns ∧ TmF w (if s.tc = 1 then s.ta else (s.ta).map (·.add (1 * 36))) (s.tc - 1) ((s.ts).tail) ∧ Us w s.ka s.kc ((s.ns).take (((gT s.ts 0).ks).length)) ∧ Us w (if s.kc = (((gT s.ts 0).ks).length) then s.ka else (s.ka).map (·.add ((((gT s.ts 0).ks).length) * 4))) (s.kc - (((gT s.ts 0).ks).length)) ((s.ns).drop (((gT s.ts 0).ks).length)) ∧ Fs w0 w (oa ρ 3) (nb ρ 3) (mlB ((gT s.ts 0).m) ((s.ns).take (((gT s.ts 0).ks).length))) ∧ True)) (fun _ => True) (fun _ _ hF hf => ⟨⟨hF.1, hF.2.1, hF.2.2.1, hF.2.2.2.1, hF.2.2.2.2.1, hf 3, trivial⟩, trivial⟩) (cR [[], [1], []] <| cX (qB (fun _ _ w hG => multi_any ((gT s.ts 0).m) s.ka s.kc ((s.ns).take (((gT s.ts 0).ks).length)) (fun n hn => hU n (List.mem_of_mem_take hn)) (by rw [List.length_take]; have := can_ks hc; have h1 := can_fd hc; unfold FdP at h1; have := hk; have := h2; have e : (gT s.ts 0).ks.length = s.fst.ks.length := rfl; have e2 : (gT s.ts 0).m = s.fst.m := rfl; omega) (by rw [List.length_take]; have := can_ks hc; have h1 := can_fd hc; unfold FdP at h1; have := hk; have e : (gT s.ts 0).ks.length = s.fst.ks.length := rfl; have e2 : (gT s.ts 0).m = s.fst.m := rfl; omega) w hG.facts0.now.2.2.2.1)) <| cR [[], [], [], []] <| cN) (fun ρ9 _ => ?_)
 refine ok_ret ?_
 refine mt_block_r ?_
 refine mt_then_r ?_
 refine mD [(0, (pt g)), (2, (.slice (oa ρ9 3) (mlB ((gT s.ts 0).m) ((s.ns).take (((gT s.ts 0).ks).length))).length (nb ρ9 3))), (3, (vi 0)), (4, (pt (nb ρ2 6)))] [(g, (cL #[(.slice (if s.tc = 1 then s.ta else (s.ta).map (·.add (1 * 36))) ((s.ts).tail).length (s.tc - 1)), (.slice (if s.kc = (((gT s.ts 0).ks).length) then s.ka else (s.ka).map (·.add ((((gT s.ts 0).ks).length) * 4))) ((s.ns).drop (((gT s.ts 0).ks).length)).length (s.kc - (((gT s.ts 0).ks).length)))] 64)), (nb ρ2 6, (cL (TmA.row (gT s.ts 0)) 46))] ?_
 exact mR (v := (.tuple #[(.slice (oa ρ9 3) (mlB ((gT s.ts 0).m) ((s.ns).take (((gT s.ts 0).ks).length))).length (nb ρ9 3)), (vi 0)])) (fun _ hS => ⟨oa ρ9 3, nb ρ9 3, rfl, hS.below, hS.knows [1, 0], fs_eq (rfl) hS.facts.now.2.2.2.2.2.1⟩)
theorem next3_any (g : Nat) (s : Mk) (x : List UInt8) (s1 : Mk) (hk : s.fst.kd = 3) (hc : s.can = true) (ho : TsOk s.ts) (_hU : ∀ n ∈ s.ns, n < M) (hx : x.length ≤ 1000000) (w0 : World) (hK : Knows [(g, (cL #[(.slice s.ta (s.ts).length s.tc), (.slice s.ka (s.ns).length s.kc)] 64))] w0) (hP : Pers (fun b => b ∈ ([(g, (cL #[(.slice s.ta (s.ts).length s.tc), (.slice s.ka (s.ns).length s.kc)] 64))] : List (Nat × Obj)).map (·.1)) (fun w => TmF w s.ta s.tc s.ts ∧ Us w s.ka s.kc s.ns ∧ True) w0) (ih : NextC g s.go x s1) : Calls Tryz.prog 26 #[(pt g)] w0 (fun ε w' => ∃ α κ, ε = .returned (.tuple #[.slice α (afB s.fst.nu x).length κ, .int .i64 0]) ∧ Upd (fun b => b ∈ ([(g, (cL #[(.slice s.ta (s.ts).length s.tc), (.slice s.ka (s.ns).length s.kc)] 64))] : List (Nat × Obj)).map (·.1)) w0 w' ∧ Knows [(g, (cL #[(.slice s1.ta (s1.ts).length s1.tc), (.slice s1.ka (s1.ns).length s1.kc)] 64))] w' ∧ Fs w0 w' α κ (afB s.fst.nu x)) := by
 refine Calls.of_okW (n := 97) (F := (fun w => TmF w s.ta s.tc s.ts ∧ Us w s.ka s.kc s.ns ∧ True)) [(g, (cL #[(.slice s.ta (s.ts).length s.tc), (.slice s.ka (s.ns).length s.kc)] 64))] Tryz.func26 rfl rfl rfl (by simp) hK (by simp) hP ?_
 refine sS Tryz.f26 2 [0, 2, 3] [] (fun _ => [(.slice none 0 0), (vi 0)]) (fun _ => []) (cR [[], []] <| cN) (fun _ => ?_)
 refine sS Tryz.f26 8 [0, 2, 3, 4] [] (fun ρ => [(pt g), (pt g), (pt g), (.slice s.ta (s.ts).length s.tc), (.pointer (adr s.ta (0 * 36))), (.agg (TmA.row (gT s.ts 0))), (pt (nb ρ 6)), undef]) (fun ρ => [(6, (nw ρ 6 (cL (tmV 0 0 0 0 (.slice none 0 0)) 46))), (7, (pwt 49 (nb ρ 6) (cL (TmA.row (gT s.ts 0)) 46)))]) (cR [[], [], [], [0]] <| cX (qF (fun _ _ _ hG => TmF.idx (k := .i64) Tryz.underlying24 Tryz.sizeOf46 hG.facts0.now.1 rfl ((show (0 : Int) = ((0 : Nat) : Int) ∧ 0 < (s.ts).length from ⟨rfl, can_pos hc⟩)).1 ((show (0 : Int) = ((0 : Nat) : Int) ∧ 0 < (s.ts).length from ⟨rfl, can_pos hc⟩)).2)) <| cX (qF (fun _ _ _ hG => TmF.ldA (i := 0) Tryz.isAgg46 Tryz.sizeOf46 hG.facts0.now.1 ((show (0 : Int) = ((0 : Nat) : Int) ∧ 0 < (s.ts).length from ⟨rfl, can_pos hc⟩)).2)) <| cR [[], [49]] <| cN) (fun ρ2 => ?_)
 refine sSf Tryz.f26 9 [0, 2, 3, 4] [] (fun _ => [(pt g), (pt g), (pt g), (pt g), (.slice s.ta (s.ts).length s.tc), (.slice (if s.tc = 1 then s.ta else (s.ta).map (·.add (1 * 36))) ((s.ts).tail).length (s.tc - 1)), (pt g), (pt g), undef]) (fun _ => [(8, (pwt 0 g (cL #[(.slice (if s.tc = 1 then s.ta else (s.ta).map (·.add (1 * 36))) ((s.ts).tail).length (s.tc - 1)), (.slice s.ka (s.ns).length s.kc)] 64)))]) (fun _ => [(5, fun w => TmF w (if s.tc = 1 then s.ta else (s.ta).map (·.add (1 * 36))) (s.tc - 1) ((s.ts).tail))]) (fun _ => (fun w => TmF w s.ta s.tc s.ts ∧ Us w s.ka s.kc s.ns ∧ TmF w (if s.tc = 1 then s.ta else (s.ta).map (·.add (1 * 36))) (s.tc - 1) ((s.ts).tail) ∧ True)) (fun _ => True) (fun _ _ hF hf => ⟨⟨hF.1, hF.2.1, hf 5, trivial⟩, trivial⟩) (cR [[], [], [], [], [0]] <| cX (o_semF _ (fun _ => do pure (Next.value (← Instr.sliceAt 24 (.slice s.ta (s.ts).length s.tc) (some (vi 1)) none none))) (fun _ => (.slice (if s.tc = 1 then s.ta else (s.ta).map (·.add (1 * 36))) ((s.ts).tail).length (s.tc - 1))) (fun _ => (by kernel_rfl)) (fun _ => (by kernel_rfl)) (fun _ _ _ hG => slice_lo (k := 1) Tryz.underlying24 Tryz.sizeOf46 rfl (congrArg (Value.int .i64) (rfl)) (can_pos hc) (hG.facts0.now.1).le (by rw [List.length_tail])) (fun _ _ w hG => (hG.facts0).mono (fun _ hF => (hF.1).tail (can_pos hc)))) <| cR [[], [], [0]] <| cN) (fun _ _ => ?_)
 refine sDf Tryz.f26 [0, 1, 3, 7, 0, 16, 48, 127, 255] 9 [0, 2, 3, 4, 5] [] (fun _ => [(pt g), (pt g), (.pointer (some ⟨g, 1, none⟩)), (.slice s.ka (s.ns).length s.kc), (.pointer (some ⟨nb ρ2 6, 35, none⟩)), (.slice ((gT s.ts 0).ka) ((gT s.ts 0).ks).length ((gT s.ts 0).kc)), (vn (((gT s.ts 0).ks).length)), (.slice s.ka ((s.ns).take (((gT s.ts 0).ks).length)).length s.kc), (.slice s.ka ((s.ns).take (((gT s.ts 0).ks).length)).length s.kc)]) (fun _ => []) (fun _ => [(7, fun w => Us w s.ka s.kc ((s.ns).take (((gT s.ts 0).ks).length)))]) (fun _ => (fun w => TmF w s.ta s.tc s.ts ∧ Us w s.ka s.kc s.ns ∧ TmF w (if s.tc = 1 then s.ta else (s.ta).map (·.add (1 * 36))) (s.tc - 1) ((s.ts).tail) ∧ Us w s.ka s.kc ((s.ns).take (((gT s.ts 0).ks).length)) ∧ True)) (fun _ => True) (fun _ _ hF hf => ⟨⟨hF.1, hF.2.1, hF.2.2.1, hf 7, trivial⟩, trivial⟩) (cR [[], [], [], [0], [], [1], []] <| cX (o_semF _ (fun _ => do pure (Next.value (← Instr.sliceAt 29 (.slice s.ka (s.ns).length s.kc) none (some (vn (((gT s.ts 0).ks).length))) none))) (fun _ => (.slice s.ka ((s.ns).take (((gT s.ts 0).ks).length)).length s.kc)) (fun _ => (by kernel_rfl)) (fun _ => (by kernel_rfl)) (fun _ _ _ hG => slice_hi (k := ((gT s.ts 0).ks).length) Tryz.underlying29 Tryz.sizeOf39 rfl (congrArg (Value.int .i64) (rfl)) (can_ks hc) (hG.facts0.now.2.1).le (by rw [List.length_take]; exact (Nat.min_eq_left (can_ks hc)).symm)) (fun _ _ w hG => (hG.facts0).mono (fun _ hF => (hF.2.1).take (((gT s.ts 0).ks).length)))) <| cR [[]] <| cN) (fun _ _ => ?_)
 refine sDf Tryz.f26 [0, 0, 2, 6, 14, 0, 32, 96, 254, 511, 1023, 2047] 12 [0, 2, 3, 4, 5] [] (fun _ => [(pt g), (pt g), (pt g), (.pointer (some ⟨g, 1, none⟩)), (.slice s.ka (s.ns).length s.kc), (.pointer (some ⟨nb ρ2 6, 35, none⟩)), (.slice ((gT s.ts 0).ka) ((gT s.ts 0).ks).length ((gT s.ts 0).kc)), (vn (((gT s.ts 0).ks).length)), (.slice (if s.kc = (((gT s.ts 0).ks).length) then s.ka else (s.ka).map (·.add ((((gT s.ts 0).ks).length) * 4))) ((s.ns).drop (((gT s.ts 0).ks).length)).length (s.kc - (((gT s.ts 0).ks).length))), (pt g), (.pointer (some ⟨g, 1, none⟩)), undef]) (fun _ => [(11, (pwt 0 g (cL #[(.slice (if s.tc = 1 then s.ta else (s.ta).map (·.add (1 * 36))) ((s.ts).tail).length (s.tc - 1)), (.slice (if s.kc = (((gT s.ts 0).ks).length) then s.ka else (s.ka).map (·.add ((((gT s.ts 0).ks).length) * 4))) ((s.ns).drop (((gT s.ts 0).ks).length)).length (s.kc - (((gT s.ts 0).ks).length)))] 64)))]) (fun _ => [(8, fun w => Us w (if s.kc = (((gT s.ts 0).ks).length) then s.ka else (s.ka).map (·.add ((((gT s.ts 0).ks).length) * 4))) (s.kc - (((gT s.ts 0).ks).length)) ((s.ns).drop (((gT s.ts 0).ks).length)))]) (fun _ => (fun w => TmF w s.ta s.tc s.ts ∧ Us w s.ka s.kc s.ns ∧ TmF w (if s.tc = 1 then s.ta else (s.ta).map (·.add (1 * 36))) (s.tc - 1) ((s.ts).tail) ∧ Us w s.ka s.kc ((s.ns).take (((gT s.ts 0).ks).length)) ∧ Us w (if s.kc = (((gT s.ts 0).ks).length) then s.ka else (s.ka).map (·.add ((((gT s.ts 0).ks).length) * 4))) (s.kc - (((gT s.ts 0).ks).length)) ((s.ns).drop (((gT s.ts 0).ks).length)) ∧ True)) (fun _ => True) (fun _ _ hF hf => ⟨⟨hF.1, hF.2.1, hF.2.2.1, hF.2.2.2.1, hf 8, trivial⟩, trivial⟩) (cR [[], [], [], [], [0], [], [1], []] <| cX (o_semF _ (fun _ => do pure (Next.value (← Instr.sliceAt 29 (.slice s.ka (s.ns).length s.kc) (some (vn (((gT s.ts 0).ks).length))) none none))) (fun _ => (.slice (if s.kc = (((gT s.ts 0).ks).length) then s.ka else (s.ka).map (·.add ((((gT s.ts 0).ks).length) * 4))) ((s.ns).drop (((gT s.ts 0).ks).length)).length (s.kc - (((gT s.ts 0).ks).length)))) (fun _ => (by kernel_rfl)) (fun _ => (by kernel_rfl)) (fun _ _ _ hG => slice_lo (k := ((gT s.ts 0).ks).length) Tryz.underlying29 Tryz.sizeOf39 rfl (congrArg (Value.int .i64) (rfl)) (can_ks hc) (hG.facts0.now.2.1).le (by rw [List.length_drop])) (fun _ _ w hG => (hG.facts0).mono (fun _ hF => (hF.2.1).drop (can_ks hc)))) <| cR [[], [], [0]] <| cN) (fun _ _ => ?_)
 refine ok_seq ?_
 refine sS Tryz.f26 2 [0, 2, 3, 4, 5, 43] [] (fun _ => [(pt (nb ρ2 6)), (vi ((gT s.ts 0).kd))]) (fun _ => []) (cR [[], [1]] <| cN) (fun _ => ?_)
 refine ok_block ?_
 refine sS Tryz.f26 2 [0, 2, 3, 4, 5, 43, 44] [] (fun _ => [(.bool false), (.bool false)]) (fun _ => []) (cA (v := fun ρ => (.bool (((gT s.ts 0).kd) == 1))) (fun _ => (.bool false)) (fun _ => congrArg Value.bool (show (((gT s.ts 0).kd) == 1) = false by rw [show (gT s.ts 0).kd = 3 from hk]; rfl)) <| cR [[]] <| cN) (fun _ => ?_)
 refine dRs [(0, (pt g)), (2, (.slice none 0 0)), (3, (vi 0)), (4, (pt (nb ρ2 6))), (5, (.slice s.ka ((s.ns).take (((gT s.ts 0).ks).length)).length s.kc)), (43, (vi ((gT s.ts 0).kd))), (44, (.bool false))] [(g, (cL #[(.slice (if s.tc = 1 then s.ta else (s.ta).map (·.add (1 * 36))) ((s.ts).tail).length (s.tc - 1)), (.slice (if s.kc = (((gT s.ts 0).ks).length) then s.ka else (s.ka).map (·.add ((((gT s.ts 0).ks).length) * 4))) ((s.ns).drop (((gT s.ts 0).ks).length)).length (s.kc - (((gT s.ts 0).ks).length)))] 64)), (nb ρ2 6, (cL (TmA.row (gT s.ts 0)) 46))] ?_
 refine oN ?_
 refine sS Tryz.f26 2 [0, 2, 3, 4, 5, 50] [] (fun _ => [(.bool false), (.bool false)]) (fun _ => []) (cA (v := fun ρ => (.bool (((gT s.ts 0).kd) == 2))) (fun _ => (.bool false)) (fun _ => congrArg Value.bool (show (((gT s.ts 0).kd) == 2) = false by rw [show (gT s.ts 0).kd = 3 from hk]; rfl)) <| cR [[]] <| cN) (fun _ => ?_)
 refine oN ?_
 refine ok_skip ?_
 refine mt_block_n ?_
 refine mt_then ?_
 refine sSf Tryz.f26 7 [0, 2, 3, 4, 6, 7] [] (fun ρ => [(pt g), (.tuple #[(.slice (oa ρ 1) (x).length (nb ρ 1)), (vi 0)]), (.tuple #[(.slice (oa ρ 1) (x).length (nb ρ 1)), (vi 0)]), (.slice (oa ρ 1) (x).length (nb ρ 1)), (vi 0), (.slice (oa ρ 1) (x).length (nb ρ 1)), (vi 0)]) (fun _ => [(1, (pwt 0 g (cL #[(.slice s1.ta (s1.ts).length s1.tc), (.slice s1.ka (s1.ns).length s1.kc)] 64)))]) (fun ρ => [(1, fun w => Fs w0 w (oa ρ 1) (nb ρ 1) x)]) (fun ρ => (fun w => TmF w s.ta s.tc s.ts ∧ Us w s.ka s.kc s.ns ∧ TmF w (if s.tc = 1 then s.ta else (s.ta).map (·.add (1 * 36))) (s.tc - 1) ((s.ts).tail) ∧ Us w s.ka s.kc ((s.ns).take (((gT s.ts 0).ks).length)) ∧ Us w (if s.kc = (((gT s.ts 0).ks).length) then s.ka else (s.ka).map (·.add ((((gT s.ts 0).ks).length) * 4))) (s.kc - (((gT s.ts 0).ks).length)) ((s.ns).drop (((gT s.ts 0).ks).length)) ∧ Fs w0 w (oa ρ 1) (nb ρ 1) x ∧ True)) (fun _ => True) (fun _ _ hF hf => ⟨⟨hF.1, hF.2.1, hF.2.2.1, hF.2.2.2.1, hF.2.2.2.2.1, hf 1, trivial⟩, trivial⟩) (cR [[]] <| cX (qWB [0] (fun _ _ w hG hK => ih w hK (hG.pK [0] (fun _ hF => ⟨hF.2.2.1, hF.2.2.2.2.1, trivial⟩)) )) <| cR [[], [], [], [], []] <| cN) (fun ρ9 _ => ?_)
 refine ok_seq ?_
 refine sS Tryz.f26 2 [0, 2, 3, 4, 6, 7, 64] [] (fun _ => [(vi 0), (.bool false)]) (fun _ => []) (cR [[], []] <| cN) (fun _ => ?_)
 refine oN ?_
 refine ok_skip ?_
 refine mt_then ?_
 refine ok_seq ?_
 refine sS Tryz.f26 2 [0, 2, 3, 4, 6, 7, 67] [] (fun _ => [(pt (nb ρ2 6)), (vi ((gT s.ts 0).kd))]) (fun _ => []) (cR [[], [1]] <| cN) (fun _ => ?_)
 refine ok_block ?_
 refine sS Tryz.f26 2 [0, 2, 3, 4, 6, 7, 67, 68] [] (fun _ => [(.bool true), (.bool true)]) (fun _ => []) (cA (v := fun ρ => (.bool (((gT s.ts 0).kd) == 3))) (fun _ => (.bool true)) (fun _ => congrArg Value.bool (show (((gT s.ts 0).kd) == 3) = true by rw [show (gT s.ts 0).kd = 3 from hk]; rfl)) <| cR [[]] <| cN) (fun _ => ?_)
 refine oY ?_
 refine sSf Tryz.f26 6 [0, 2, 3, 6, 7] [1, 0] (fun ρ => [(.pointer (some ⟨nb ρ2 6, 2, none⟩)), (.int .u32 (((gT s.ts 0).nu : Nat) : Int)), (.slice (oa ρ9 1) (x).length (nb ρ9 1)), (.slice (oa ρ 3) (afB ((gT s.ts 0).nu) x).length (nb ρ 3)), (.slice (oa ρ 3) (afB ((gT s.ts 0).nu) x).length (nb ρ 3)), (vi 0)]) (fun _ => []) (fun ρ => [(3, fun w => Fs w0 w (oa ρ 3) (nb ρ 3) (afB ((gT s.ts 0).nu) x))]) (fun ρ => (fun w => TmF w s.ta s.tc s.ts ∧ Us w s.ka s.kc s.ns ∧ TmF w (if s.tc = 1 then s.ta else (s.ta).map (·.add (1 * 36))) (s.tc - 1) ((s.ts).tail) ∧ Us w s.ka s.kc ((s.ns).take (((gT s.ts 0).ks).length)) ∧ Us w (if s.kc = (((gT s.ts 0).ks).length) then s.ka else (s.ka).map (·.add ((((gT s.ts 0).ks).length) * 4))) (s.kc - (((gT s.ts 0).ks).length)) ((s.ns).drop (((gT s.ts 0).ks).length)) ∧ Fs w0 w (oa ρ9 1) (nb ρ9 1) x ∧ Fs w0 w (oa ρ 3) (nb ρ 3) (afB ((gT s.ts 0).nu) x) ∧ True)) (fun _ => True) (fun _ _ hF hf => ⟨⟨hF.1, hF.2.1, hF.2.2.1, hF.2.2.2.1, hF.2.2.2.2.1, hF.2.2.2.2.2.1, hf 3, trivial⟩, trivial⟩) (cR [[], [1], []] <| cX (qB (fun _ _ w hG => after_any ((gT s.ts 0).nu) (oa ρ9 1) (nb ρ9 1) x (ho.gT 0).nu hx w hG.facts0.now.2.2.2.2.2.1.1)) <| cR [[], []] <| cN) (fun ρ13 _ => ?_)
 refine ok_ret ?_
 refine mt_block_r ?_
 refine mt_then_r ?_
 refine mD [(0, (pt g)), (2, (.slice (oa ρ13 3) (afB ((gT s.ts 0).nu) x).length (nb ρ13 3))), (3, (vi 0)), (6, (.slice (oa ρ9 1) (x).length (nb ρ9 1))), (7, (vi 0))] [(g, (cL #[(.slice s1.ta (s1.ts).length s1.tc), (.slice s1.ka (s1.ns).length s1.kc)] 64))] ?_
 exact mR (v := (.tuple #[(.slice (oa ρ13 3) (afB ((gT s.ts 0).nu) x).length (nb ρ13 3)), (vi 0)])) (fun _ hS => ⟨oa ρ13 3, nb ρ13 3, rfl, hS.below, hS.knows [1], fs_eq (rfl) hS.facts.now.2.2.2.2.2.2.1⟩)
theorem next4_any (g : Nat) (s : Mk) (x : List UInt8) (s1 : Mk) (hk : s.fst.kd = 4) (hc : s.can = true) (ho : TsOk s.ts) (_hU : ∀ n ∈ s.ns, n < M) (hx : x.length ≤ 1000000) (w0 : World) (hK : Knows [(g, (cL #[(.slice s.ta (s.ts).length s.tc), (.slice s.ka (s.ns).length s.kc)] 64))] w0) (hP : Pers (fun b => b ∈ ([(g, (cL #[(.slice s.ta (s.ts).length s.tc), (.slice s.ka (s.ns).length s.kc)] 64))] : List (Nat × Obj)).map (·.1)) (fun w => TmF w s.ta s.tc s.ts ∧ Us w s.ka s.kc s.ns ∧ True) w0) (ih : NextC g s.go x s1) : Calls Tryz.prog 26 #[(pt g)] w0 (fun ε w' => ∃ α κ, ε = .returned (.tuple #[.slice α (olB s.fst.nu x).length κ, .int .i64 0]) ∧ Upd (fun b => b ∈ ([(g, (cL #[(.slice s.ta (s.ts).length s.tc), (.slice s.ka (s.ns).length s.kc)] 64))] : List (Nat × Obj)).map (·.1)) w0 w' ∧ Knows [(g, (cL #[(.slice s1.ta (s1.ts).length s1.tc), (.slice s1.ka (s1.ns).length s1.kc)] 64))] w' ∧ Fs w0 w' α κ (olB s.fst.nu x)) := by
 refine Calls.of_okW (n := 97) (F := (fun w => TmF w s.ta s.tc s.ts ∧ Us w s.ka s.kc s.ns ∧ True)) [(g, (cL #[(.slice s.ta (s.ts).length s.tc), (.slice s.ka (s.ns).length s.kc)] 64))] Tryz.func26 rfl rfl rfl (by simp) hK (by simp) hP ?_
 refine sS Tryz.f26 2 [0, 2, 3] [] (fun _ => [(.slice none 0 0), (vi 0)]) (fun _ => []) (cR [[], []] <| cN) (fun _ => ?_)
 refine sS Tryz.f26 8 [0, 2, 3, 4] [] (fun ρ => [(pt g), (pt g), (pt g), (.slice s.ta (s.ts).length s.tc), (.pointer (adr s.ta (0 * 36))), (.agg (TmA.row (gT s.ts 0))), (pt (nb ρ 6)), undef]) (fun ρ => [(6, (nw ρ 6 (cL (tmV 0 0 0 0 (.slice none 0 0)) 46))), (7, (pwt 49 (nb ρ 6) (cL (TmA.row (gT s.ts 0)) 46)))]) (cR [[], [], [], [0]] <| cX (qF (fun _ _ _ hG => TmF.idx (k := .i64) Tryz.underlying24 Tryz.sizeOf46 hG.facts0.now.1 rfl ((show (0 : Int) = ((0 : Nat) : Int) ∧ 0 < (s.ts).length from ⟨rfl, can_pos hc⟩)).1 ((show (0 : Int) = ((0 : Nat) : Int) ∧ 0 < (s.ts).length from ⟨rfl, can_pos hc⟩)).2)) <| cX (qF (fun _ _ _ hG => TmF.ldA (i := 0) Tryz.isAgg46 Tryz.sizeOf46 hG.facts0.now.1 ((show (0 : Int) = ((0 : Nat) : Int) ∧ 0 < (s.ts).length from ⟨rfl, can_pos hc⟩)).2)) <| cR [[], [49]] <| cN) (fun ρ2 => ?_)
 refine sSf Tryz.f26 9 [0, 2, 3, 4] [] (fun _ => [(pt g), (pt g), (pt g), (pt g), (.slice s.ta (s.ts).length s.tc), (.slice (if s.tc = 1 then s.ta else (s.ta).map (·.add (1 * 36))) ((s.ts).tail).length (s.tc - 1)), (pt g), (pt g), undef]) (fun _ => [(8, (pwt 0 g (cL #[(.slice (if s.tc = 1 then s.ta else (s.ta).map (·.add (1 * 36))) ((s.ts).tail).length (s.tc - 1)), (.slice s.ka (s.ns).length s.kc)] 64)))]) (fun _ => [(5, fun w => TmF w (if s.tc = 1 then s.ta else (s.ta).map (·.add (1 * 36))) (s.tc - 1) ((s.ts).tail))]) (fun _ => (fun w => TmF w s.ta s.tc s.ts ∧ Us w s.ka s.kc s.ns ∧ TmF w (if s.tc = 1 then s.ta else (s.ta).map (·.add (1 * 36))) (s.tc - 1) ((s.ts).tail) ∧ True)) (fun _ => True) (fun _ _ hF hf => ⟨⟨hF.1, hF.2.1, hf 5, trivial⟩, trivial⟩) (cR [[], [], [], [], [0]] <| cX (o_semF _ (fun _ => do pure (Next.value (← Instr.sliceAt 24 (.slice s.ta (s.ts).length s.tc) (some (vi 1)) none none))) (fun _ => (.slice (if s.tc = 1 then s.ta else (s.ta).map (·.add (1 * 36))) ((s.ts).tail).length (s.tc - 1))) (fun _ => (by kernel_rfl)) (fun _ => (by kernel_rfl)) (fun _ _ _ hG => slice_lo (k := 1) Tryz.underlying24 Tryz.sizeOf46 rfl (congrArg (Value.int .i64) (rfl)) (can_pos hc) (hG.facts0.now.1).le (by rw [List.length_tail])) (fun _ _ w hG => (hG.facts0).mono (fun _ hF => (hF.1).tail (can_pos hc)))) <| cR [[], [], [0]] <| cN) (fun _ _ => ?_)
 refine sDf Tryz.f26 [0, 1, 3, 7, 0, 16, 48, 127, 255] 9 [0, 2, 3, 4, 5] [] (fun _ => [(pt g), (pt g), (.pointer (some ⟨g, 1, none⟩)), (.slice s.ka (s.ns).length s.kc), (.pointer (some ⟨nb ρ2 6, 35, none⟩)), (.slice ((gT s.ts 0).ka) ((gT s.ts 0).ks).length ((gT s.ts 0).kc)), (vn (((gT s.ts 0).ks).length)), (.slice s.ka ((s.ns).take (((gT s.ts 0).ks).length)).length s.kc), (.slice s.ka ((s.ns).take (((gT s.ts 0).ks).length)).length s.kc)]) (fun _ => []) (fun _ => [(7, fun w => Us w s.ka s.kc ((s.ns).take (((gT s.ts 0).ks).length)))]) (fun _ => (fun w => TmF w s.ta s.tc s.ts ∧ Us w s.ka s.kc s.ns ∧ TmF w (if s.tc = 1 then s.ta else (s.ta).map (·.add (1 * 36))) (s.tc - 1) ((s.ts).tail) ∧ Us w s.ka s.kc ((s.ns).take (((gT s.ts 0).ks).length)) ∧ True)) (fun _ => True) (fun _ _ hF hf => ⟨⟨hF.1, hF.2.1, hF.2.2.1, hf 7, trivial⟩, trivial⟩) (cR [[], [], [], [0], [], [1], []] <| cX (o_semF _ (fun _ => do pure (Next.value (← Instr.sliceAt 29 (.slice s.ka (s.ns).length s.kc) none (some (vn (((gT s.ts 0).ks).length))) none))) (fun _ => (.slice s.ka ((s.ns).take (((gT s.ts 0).ks).length)).length s.kc)) (fun _ => (by kernel_rfl)) (fun _ => (by kernel_rfl)) (fun _ _ _ hG => slice_hi (k := ((gT s.ts 0).ks).length) Tryz.underlying29 Tryz.sizeOf39 rfl (congrArg (Value.int .i64) (rfl)) (can_ks hc) (hG.facts0.now.2.1).le (by rw [List.length_take]; exact (Nat.min_eq_left (can_ks hc)).symm)) (fun _ _ w hG => (hG.facts0).mono (fun _ hF => (hF.2.1).take (((gT s.ts 0).ks).length)))) <| cR [[]] <| cN) (fun _ _ => ?_)
 refine sDf Tryz.f26 [0, 0, 2, 6, 14, 0, 32, 96, 254, 511, 1023, 2047] 12 [0, 2, 3, 4, 5] [] (fun _ => [(pt g), (pt g), (pt g), (.pointer (some ⟨g, 1, none⟩)), (.slice s.ka (s.ns).length s.kc), (.pointer (some ⟨nb ρ2 6, 35, none⟩)), (.slice ((gT s.ts 0).ka) ((gT s.ts 0).ks).length ((gT s.ts 0).kc)), (vn (((gT s.ts 0).ks).length)), (.slice (if s.kc = (((gT s.ts 0).ks).length) then s.ka else (s.ka).map (·.add ((((gT s.ts 0).ks).length) * 4))) ((s.ns).drop (((gT s.ts 0).ks).length)).length (s.kc - (((gT s.ts 0).ks).length))), (pt g), (.pointer (some ⟨g, 1, none⟩)), undef]) (fun _ => [(11, (pwt 0 g (cL #[(.slice (if s.tc = 1 then s.ta else (s.ta).map (·.add (1 * 36))) ((s.ts).tail).length (s.tc - 1)), (.slice (if s.kc = (((gT s.ts 0).ks).length) then s.ka else (s.ka).map (·.add ((((gT s.ts 0).ks).length) * 4))) ((s.ns).drop (((gT s.ts 0).ks).length)).length (s.kc - (((gT s.ts 0).ks).length)))] 64)))]) (fun _ => [(8, fun w => Us w (if s.kc = (((gT s.ts 0).ks).length) then s.ka else (s.ka).map (·.add ((((gT s.ts 0).ks).length) * 4))) (s.kc - (((gT s.ts 0).ks).length)) ((s.ns).drop (((gT s.ts 0).ks).length)))]) (fun _ => (fun w => TmF w s.ta s.tc s.ts ∧ Us w s.ka s.kc s.ns ∧ TmF w (if s.tc = 1 then s.ta else (s.ta).map (·.add (1 * 36))) (s.tc - 1) ((s.ts).tail) ∧ Us w s.ka s.kc ((s.ns).take (((gT s.ts 0).ks).length)) ∧ Us w (if s.kc = (((gT s.ts 0).ks).length) then s.ka else (s.ka).map (·.add ((((gT s.ts 0).ks).length) * 4))) (s.kc - (((gT s.ts 0).ks).length)) ((s.ns).drop (((gT s.ts 0).ks).length)) ∧ True)) (fun _ => True) (fun _ _ hF hf => ⟨⟨hF.1, hF.2.1, hF.2.2.1, hF.2.2.2.1, hf 8, trivial⟩, trivial⟩) (cR [[], [], [], [], [0], [], [1], []] <| cX (o_semF _ (fun _ => do pure (Next.value (← Instr.sliceAt 29 (.slice s.ka (s.ns).length s.kc) (some (vn (((gT s.ts 0).ks).length))) none none))) (fun _ => (.slice (if s.kc = (((gT s.ts 0).ks).length) then s.ka else (s.ka).map (·.add ((((gT s.ts 0).ks).length) * 4))) ((s.ns).drop (((gT s.ts 0).ks).length)).length (s.kc - (((gT s.ts 0).ks).length)))) (fun _ => (by kernel_rfl)) (fun _ => (by kernel_rfl)) (fun _ _ _ hG => slice_lo (k := ((gT s.ts 0).ks).length) Tryz.underlying29 Tryz.sizeOf39 rfl (congrArg (Value.int .i64) (rfl)) (can_ks hc) (hG.facts0.now.2.1).le (by rw [List.length_drop])) (fun _ _ w hG => (hG.facts0).mono (fun _ hF => (hF.2.1).drop (can_ks hc)))) <| cR [[], [], [0]] <| cN) (fun _ _ => ?_)
 refine ok_seq ?_
 refine sS Tryz.f26 2 [0, 2, 3, 4, 5, 43] [] (fun _ => [(pt (nb ρ2 6)), (vi ((gT s.ts 0).kd))]) (fun _ => []) (cR [[], [1]] <| cN) (fun _ => ?_)
 refine ok_block ?_
 refine sS Tryz.f26 2 [0, 2, 3, 4, 5, 43, 44] [] (fun _ => [(.bool false), (.bool false)]) (fun _ => []) (cA (v := fun ρ => (.bool (((gT s.ts 0).kd) == 1))) (fun _ => (.bool false)) (fun _ => congrArg Value.bool (show (((gT s.ts 0).kd) == 1) = false by rw [show (gT s.ts 0).kd = 4 from hk]; rfl)) <| cR [[]] <| cN) (fun _ => ?_)
 refine dRs [(0, (pt g)), (2, (.slice none 0 0)), (3, (vi 0)), (4, (pt (nb ρ2 6))), (5, (.slice s.ka ((s.ns).take (((gT s.ts 0).ks).length)).length s.kc)), (43, (vi ((gT s.ts 0).kd))), (44, (.bool false))] [(g, (cL #[(.slice (if s.tc = 1 then s.ta else (s.ta).map (·.add (1 * 36))) ((s.ts).tail).length (s.tc - 1)), (.slice (if s.kc = (((gT s.ts 0).ks).length) then s.ka else (s.ka).map (·.add ((((gT s.ts 0).ks).length) * 4))) ((s.ns).drop (((gT s.ts 0).ks).length)).length (s.kc - (((gT s.ts 0).ks).length)))] 64)), (nb ρ2 6, (cL (TmA.row (gT s.ts 0)) 46))] ?_
 refine oN ?_
 refine sS Tryz.f26 2 [0, 2, 3, 4, 5, 50] [] (fun _ => [(.bool false), (.bool false)]) (fun _ => []) (cA (v := fun ρ => (.bool (((gT s.ts 0).kd) == 2))) (fun _ => (.bool false)) (fun _ => congrArg Value.bool (show (((gT s.ts 0).kd) == 2) = false by rw [show (gT s.ts 0).kd = 4 from hk]; rfl)) <| cR [[]] <| cN) (fun _ => ?_)
 refine oN ?_
 refine ok_skip ?_
 refine mt_block_n ?_
 refine mt_then ?_
 refine sSf Tryz.f26 7 [0, 2, 3, 4, 6, 7] [] (fun ρ => [(pt g), (.tuple #[(.slice (oa ρ 1) (x).length (nb ρ 1)), (vi 0)]), (.tuple #[(.slice (oa ρ 1) (x).length (nb ρ 1)), (vi 0)]), (.slice (oa ρ 1) (x).length (nb ρ 1)), (vi 0), (.slice (oa ρ 1) (x).length (nb ρ 1)), (vi 0)]) (fun _ => [(1, (pwt 0 g (cL #[(.slice s1.ta (s1.ts).length s1.tc), (.slice s1.ka (s1.ns).length s1.kc)] 64)))]) (fun ρ => [(1, fun w => Fs w0 w (oa ρ 1) (nb ρ 1) x)]) (fun ρ => (fun w => TmF w s.ta s.tc s.ts ∧ Us w s.ka s.kc s.ns ∧ TmF w (if s.tc = 1 then s.ta else (s.ta).map (·.add (1 * 36))) (s.tc - 1) ((s.ts).tail) ∧ Us w s.ka s.kc ((s.ns).take (((gT s.ts 0).ks).length)) ∧ Us w (if s.kc = (((gT s.ts 0).ks).length) then s.ka else (s.ka).map (·.add ((((gT s.ts 0).ks).length) * 4))) (s.kc - (((gT s.ts 0).ks).length)) ((s.ns).drop (((gT s.ts 0).ks).length)) ∧ Fs w0 w (oa ρ 1) (nb ρ 1) x ∧ True)) (fun _ => True) (fun _ _ hF hf => ⟨⟨hF.1, hF.2.1, hF.2.2.1, hF.2.2.2.1, hF.2.2.2.2.1, hf 1, trivial⟩, trivial⟩) (cR [[]] <| cX (qWB [0] (fun _ _ w hG hK => ih w hK (hG.pK [0] (fun _ hF => ⟨hF.2.2.1, hF.2.2.2.2.1, trivial⟩)) )) <| cR [[], [], [], [], []] <| cN) (fun ρ9 _ => ?_)
 refine ok_seq ?_
 refine sS Tryz.f26 2 [0, 2, 3, 4, 6, 7, 64] [] (fun _ => [(vi 0), (.bool false)]) (fun _ => []) (cR [[], []] <| cN) (fun _ => ?_)
 refine oN ?_
 refine ok_skip ?_
 refine mt_then ?_
 refine ok_seq ?_
 refine sS Tryz.f26 2 [0, 2, 3, 4, 6, 7, 67] [] (fun _ => [(pt (nb ρ2 6)), (vi ((gT s.ts 0).kd))]) (fun _ => []) (cR [[], [1]] <| cN) (fun _ => ?_)
 refine ok_block ?_
 refine sS Tryz.f26 2 [0, 2, 3, 4, 6, 7, 67, 68] [] (fun _ => [(.bool false), (.bool false)]) (fun _ => []) (cA (v := fun ρ => (.bool (((gT s.ts 0).kd) == 3))) (fun _ => (.bool false)) (fun _ => congrArg Value.bool (show (((gT s.ts 0).kd) == 3) = false by rw [show (gT s.ts 0).kd = 4 from hk]; rfl)) <| cR [[]] <| cN) (fun _ => ?_)
 refine oN ?_
 refine sS Tryz.f26 2 [0, 2, 3, 4, 6, 7, 67, 74] [] (fun _ => [(.bool true), (.bool true)]) (fun _ => []) (cA (v := fun ρ => (.bool (((gT s.ts 0).kd) == 4))) (fun _ => (.bool true)) (fun _ => congrArg Value.bool (show (((gT s.ts 0).kd) == 4) = true by rw [show (gT s.ts 0).kd = 4 from hk]; rfl)) <| cR [[]] <| cN) (fun _ => ?_)
 refine oY ?_
 refine sSf Tryz.f26 6 [0, 2, 3, 6, 7] [1, 0] (fun ρ => [(.pointer (some ⟨nb ρ2 6, 2, none⟩)), (.int .u32 (((gT s.ts 0).nu : Nat) : Int)), (.slice (oa ρ9 1) (x).length (nb ρ9 1)), (.slice (oa ρ 3) (olB ((gT s.ts 0).nu) x).length (nb ρ 3)), (.slice (oa ρ 3) (olB ((gT s.ts 0).nu) x).length (nb ρ 3)), (vi 0)]) (fun _ => []) (fun ρ => [(3, fun w => Fs w0 w (oa ρ 3) (nb ρ 3) (olB ((gT s.ts 0).nu) x))]) (fun ρ => (fun w => TmF w s.ta s.tc s.ts ∧ Us w s.ka s.kc s.ns ∧ TmF w (if s.tc = 1 then s.ta else (s.ta).map (·.add (1 * 36))) (s.tc - 1) ((s.ts).tail) ∧ Us w s.ka s.kc ((s.ns).take (((gT s.ts 0).ks).length)) ∧ Us w (if s.kc = (((gT s.ts 0).ks).length) then s.ka else (s.ka).map (·.add ((((gT s.ts 0).ks).length) * 4))) (s.kc - (((gT s.ts 0).ks).length)) ((s.ns).drop (((gT s.ts 0).ks).length)) ∧ Fs w0 w (oa ρ9 1) (nb ρ9 1) x ∧ Fs w0 w (oa ρ 3) (nb ρ 3) (olB ((gT s.ts 0).nu) x) ∧ True)) (fun _ => True) (fun _ _ hF hf => ⟨⟨hF.1, hF.2.1, hF.2.2.1, hF.2.2.2.1, hF.2.2.2.2.1, hF.2.2.2.2.2.1, hf 3, trivial⟩, trivial⟩) (cR [[], [1], []] <| cX (qB (fun _ _ w hG => older_any ((gT s.ts 0).nu) (oa ρ9 1) (nb ρ9 1) x (ho.gT 0).nu hx w hG.facts0.now.2.2.2.2.2.1.1)) <| cR [[], []] <| cN) (fun ρ14 _ => ?_)
 refine ok_ret ?_
 refine mt_block_r ?_
 refine mt_then_r ?_
 refine mD [(0, (pt g)), (2, (.slice (oa ρ14 3) (olB ((gT s.ts 0).nu) x).length (nb ρ14 3))), (3, (vi 0)), (6, (.slice (oa ρ9 1) (x).length (nb ρ9 1))), (7, (vi 0))] [(g, (cL #[(.slice s1.ta (s1.ts).length s1.tc), (.slice s1.ka (s1.ns).length s1.kc)] 64))] ?_
 exact mR (v := (.tuple #[(.slice (oa ρ14 3) (olB ((gT s.ts 0).nu) x).length (nb ρ14 3)), (vi 0)])) (fun _ hS => ⟨oa ρ14 3, nb ρ14 3, rfl, hS.below, hS.knows [1], fs_eq (rfl) hS.facts.now.2.2.2.2.2.2.1⟩)
theorem next5_any (g : Nat) (s : Mk) (x : List UInt8) (s1 : Mk) (hk : s.fst.kd = 5) (hc : s.can = true) (ho : TsOk s.ts) (_hU : ∀ n ∈ s.ns, n < M) (hx : x.length ≤ 1000000) (w0 : World) (hK : Knows [(g, (cL #[(.slice s.ta (s.ts).length s.tc), (.slice s.ka (s.ns).length s.kc)] 64))] w0) (hP : Pers (fun b => b ∈ ([(g, (cL #[(.slice s.ta (s.ts).length s.tc), (.slice s.ka (s.ns).length s.kc)] 64))] : List (Nat × Obj)).map (·.1)) (fun w => TmF w s.ta s.tc s.ts ∧ Us w s.ka s.kc s.ns ∧ True) w0) (ih : NextC g s.go x s1) : Calls Tryz.prog 26 #[(pt g)] w0 (fun ε w' => ∃ α κ, ε = .returned (.tuple #[.slice α (hsB s.fst.h x).length κ, .int .i64 0]) ∧ Upd (fun b => b ∈ ([(g, (cL #[(.slice s.ta (s.ts).length s.tc), (.slice s.ka (s.ns).length s.kc)] 64))] : List (Nat × Obj)).map (·.1)) w0 w' ∧ Knows [(g, (cL #[(.slice s1.ta (s1.ts).length s1.tc), (.slice s1.ka (s1.ns).length s1.kc)] 64))] w' ∧ Fs w0 w' α κ (hsB s.fst.h x)) := by
 refine Calls.of_okW (n := 97) (F := (fun w => TmF w s.ta s.tc s.ts ∧ Us w s.ka s.kc s.ns ∧ True)) [(g, (cL #[(.slice s.ta (s.ts).length s.tc), (.slice s.ka (s.ns).length s.kc)] 64))] Tryz.func26 rfl rfl rfl (by simp) hK (by simp) hP ?_
 refine sS Tryz.f26 2 [0, 2, 3] [] (fun _ => [(.slice none 0 0), (vi 0)]) (fun _ => []) (cR [[], []] <| cN) (fun _ => ?_)
 refine sS Tryz.f26 8 [0, 2, 3, 4] [] (fun ρ => [(pt g), (pt g), (pt g), (.slice s.ta (s.ts).length s.tc), (.pointer (adr s.ta (0 * 36))), (.agg (TmA.row (gT s.ts 0))), (pt (nb ρ 6)), undef]) (fun ρ => [(6, (nw ρ 6 (cL (tmV 0 0 0 0 (.slice none 0 0)) 46))), (7, (pwt 49 (nb ρ 6) (cL (TmA.row (gT s.ts 0)) 46)))]) (cR [[], [], [], [0]] <| cX (qF (fun _ _ _ hG => TmF.idx (k := .i64) Tryz.underlying24 Tryz.sizeOf46 hG.facts0.now.1 rfl ((show (0 : Int) = ((0 : Nat) : Int) ∧ 0 < (s.ts).length from ⟨rfl, can_pos hc⟩)).1 ((show (0 : Int) = ((0 : Nat) : Int) ∧ 0 < (s.ts).length from ⟨rfl, can_pos hc⟩)).2)) <| cX (qF (fun _ _ _ hG => TmF.ldA (i := 0) Tryz.isAgg46 Tryz.sizeOf46 hG.facts0.now.1 ((show (0 : Int) = ((0 : Nat) : Int) ∧ 0 < (s.ts).length from ⟨rfl, can_pos hc⟩)).2)) <| cR [[], [49]] <| cN) (fun ρ2 => ?_)
 refine sSf Tryz.f26 9 [0, 2, 3, 4] [] (fun _ => [(pt g), (pt g), (pt g), (pt g), (.slice s.ta (s.ts).length s.tc), (.slice (if s.tc = 1 then s.ta else (s.ta).map (·.add (1 * 36))) ((s.ts).tail).length (s.tc - 1)), (pt g), (pt g), undef]) (fun _ => [(8, (pwt 0 g (cL #[(.slice (if s.tc = 1 then s.ta else (s.ta).map (·.add (1 * 36))) ((s.ts).tail).length (s.tc - 1)), (.slice s.ka (s.ns).length s.kc)] 64)))]) (fun _ => [(5, fun w => TmF w (if s.tc = 1 then s.ta else (s.ta).map (·.add (1 * 36))) (s.tc - 1) ((s.ts).tail))]) (fun _ => (fun w => TmF w s.ta s.tc s.ts ∧ Us w s.ka s.kc s.ns ∧ TmF w (if s.tc = 1 then s.ta else (s.ta).map (·.add (1 * 36))) (s.tc - 1) ((s.ts).tail) ∧ True)) (fun _ => True) (fun _ _ hF hf => ⟨⟨hF.1, hF.2.1, hf 5, trivial⟩, trivial⟩) (cR [[], [], [], [], [0]] <| cX (o_semF _ (fun _ => do pure (Next.value (← Instr.sliceAt 24 (.slice s.ta (s.ts).length s.tc) (some (vi 1)) none none))) (fun _ => (.slice (if s.tc = 1 then s.ta else (s.ta).map (·.add (1 * 36))) ((s.ts).tail).length (s.tc - 1))) (fun _ => (by kernel_rfl)) (fun _ => (by kernel_rfl)) (fun _ _ _ hG => slice_lo (k := 1) Tryz.underlying24 Tryz.sizeOf46 rfl (congrArg (Value.int .i64) (rfl)) (can_pos hc) (hG.facts0.now.1).le (by rw [List.length_tail])) (fun _ _ w hG => (hG.facts0).mono (fun _ hF => (hF.1).tail (can_pos hc)))) <| cR [[], [], [0]] <| cN) (fun _ _ => ?_)
 refine sDf Tryz.f26 [0, 1, 3, 7, 0, 16, 48, 127, 255] 9 [0, 2, 3, 4, 5] [] (fun _ => [(pt g), (pt g), (.pointer (some ⟨g, 1, none⟩)), (.slice s.ka (s.ns).length s.kc), (.pointer (some ⟨nb ρ2 6, 35, none⟩)), (.slice ((gT s.ts 0).ka) ((gT s.ts 0).ks).length ((gT s.ts 0).kc)), (vn (((gT s.ts 0).ks).length)), (.slice s.ka ((s.ns).take (((gT s.ts 0).ks).length)).length s.kc), (.slice s.ka ((s.ns).take (((gT s.ts 0).ks).length)).length s.kc)]) (fun _ => []) (fun _ => [(7, fun w => Us w s.ka s.kc ((s.ns).take (((gT s.ts 0).ks).length)))]) (fun _ => (fun w => TmF w s.ta s.tc s.ts ∧ Us w s.ka s.kc s.ns ∧ TmF w (if s.tc = 1 then s.ta else (s.ta).map (·.add (1 * 36))) (s.tc - 1) ((s.ts).tail) ∧ Us w s.ka s.kc ((s.ns).take (((gT s.ts 0).ks).length)) ∧ True)) (fun _ => True) (fun _ _ hF hf => ⟨⟨hF.1, hF.2.1, hF.2.2.1, hf 7, trivial⟩, trivial⟩) (cR [[], [], [], [0], [], [1], []] <| cX (o_semF _ (fun _ => do pure (Next.value (← Instr.sliceAt 29 (.slice s.ka (s.ns).length s.kc) none (some (vn (((gT s.ts 0).ks).length))) none))) (fun _ => (.slice s.ka ((s.ns).take (((gT s.ts 0).ks).length)).length s.kc)) (fun _ => (by kernel_rfl)) (fun _ => (by kernel_rfl)) (fun _ _ _ hG => slice_hi (k := ((gT s.ts 0).ks).length) Tryz.underlying29 Tryz.sizeOf39 rfl (congrArg (Value.int .i64) (rfl)) (can_ks hc) (hG.facts0.now.2.1).le (by rw [List.length_take]; exact (Nat.min_eq_left (can_ks hc)).symm)) (fun _ _ w hG => (hG.facts0).mono (fun _ hF => (hF.2.1).take (((gT s.ts 0).ks).length)))) <| cR [[]] <| cN) (fun _ _ => ?_)
 refine sDf Tryz.f26 [0, 0, 2, 6, 14, 0, 32, 96, 254, 511, 1023, 2047] 12 [0, 2, 3, 4, 5] [] (fun _ => [(pt g), (pt g), (pt g), (.pointer (some ⟨g, 1, none⟩)), (.slice s.ka (s.ns).length s.kc), (.pointer (some ⟨nb ρ2 6, 35, none⟩)), (.slice ((gT s.ts 0).ka) ((gT s.ts 0).ks).length ((gT s.ts 0).kc)), (vn (((gT s.ts 0).ks).length)), (.slice (if s.kc = (((gT s.ts 0).ks).length) then s.ka else (s.ka).map (·.add ((((gT s.ts 0).ks).length) * 4))) ((s.ns).drop (((gT s.ts 0).ks).length)).length (s.kc - (((gT s.ts 0).ks).length))), (pt g), (.pointer (some ⟨g, 1, none⟩)), undef]) (fun _ => [(11, (pwt 0 g (cL #[(.slice (if s.tc = 1 then s.ta else (s.ta).map (·.add (1 * 36))) ((s.ts).tail).length (s.tc - 1)), (.slice (if s.kc = (((gT s.ts 0).ks).length) then s.ka else (s.ka).map (·.add ((((gT s.ts 0).ks).length) * 4))) ((s.ns).drop (((gT s.ts 0).ks).length)).length (s.kc - (((gT s.ts 0).ks).length)))] 64)))]) (fun _ => [(8, fun w => Us w (if s.kc = (((gT s.ts 0).ks).length) then s.ka else (s.ka).map (·.add ((((gT s.ts 0).ks).length) * 4))) (s.kc - (((gT s.ts 0).ks).length)) ((s.ns).drop (((gT s.ts 0).ks).length)))]) (fun _ => (fun w => TmF w s.ta s.tc s.ts ∧ Us w s.ka s.kc s.ns ∧ TmF w (if s.tc = 1 then s.ta else (s.ta).map (·.add (1 * 36))) (s.tc - 1) ((s.ts).tail) ∧ Us w s.ka s.kc ((s.ns).take (((gT s.ts 0).ks).length)) ∧ Us w (if s.kc = (((gT s.ts 0).ks).length) then s.ka else (s.ka).map (·.add ((((gT s.ts 0).ks).length) * 4))) (s.kc - (((gT s.ts 0).ks).length)) ((s.ns).drop (((gT s.ts 0).ks).length)) ∧ True)) (fun _ => True) (fun _ _ hF hf => ⟨⟨hF.1, hF.2.1, hF.2.2.1, hF.2.2.2.1, hf 8, trivial⟩, trivial⟩) (cR [[], [], [], [], [0], [], [1], []] <| cX (o_semF _ (fun _ => do pure (Next.value (← Instr.sliceAt 29 (.slice s.ka (s.ns).length s.kc) (some (vn (((gT s.ts 0).ks).length))) none none))) (fun _ => (.slice (if s.kc = (((gT s.ts 0).ks).length) then s.ka else (s.ka).map (·.add ((((gT s.ts 0).ks).length) * 4))) ((s.ns).drop (((gT s.ts 0).ks).length)).length (s.kc - (((gT s.ts 0).ks).length)))) (fun _ => (by kernel_rfl)) (fun _ => (by kernel_rfl)) (fun _ _ _ hG => slice_lo (k := ((gT s.ts 0).ks).length) Tryz.underlying29 Tryz.sizeOf39 rfl (congrArg (Value.int .i64) (rfl)) (can_ks hc) (hG.facts0.now.2.1).le (by rw [List.length_drop])) (fun _ _ w hG => (hG.facts0).mono (fun _ hF => (hF.2.1).drop (can_ks hc)))) <| cR [[], [], [0]] <| cN) (fun _ _ => ?_)
 refine ok_seq ?_
 refine sS Tryz.f26 2 [0, 2, 3, 4, 5, 43] [] (fun _ => [(pt (nb ρ2 6)), (vi ((gT s.ts 0).kd))]) (fun _ => []) (cR [[], [1]] <| cN) (fun _ => ?_)
 refine ok_block ?_
 refine sS Tryz.f26 2 [0, 2, 3, 4, 5, 43, 44] [] (fun _ => [(.bool false), (.bool false)]) (fun _ => []) (cA (v := fun ρ => (.bool (((gT s.ts 0).kd) == 1))) (fun _ => (.bool false)) (fun _ => congrArg Value.bool (show (((gT s.ts 0).kd) == 1) = false by rw [show (gT s.ts 0).kd = 5 from hk]; rfl)) <| cR [[]] <| cN) (fun _ => ?_)
 refine dRs [(0, (pt g)), (2, (.slice none 0 0)), (3, (vi 0)), (4, (pt (nb ρ2 6))), (5, (.slice s.ka ((s.ns).take (((gT s.ts 0).ks).length)).length s.kc)), (43, (vi ((gT s.ts 0).kd))), (44, (.bool false))] [(g, (cL #[(.slice (if s.tc = 1 then s.ta else (s.ta).map (·.add (1 * 36))) ((s.ts).tail).length (s.tc - 1)), (.slice (if s.kc = (((gT s.ts 0).ks).length) then s.ka else (s.ka).map (·.add ((((gT s.ts 0).ks).length) * 4))) ((s.ns).drop (((gT s.ts 0).ks).length)).length (s.kc - (((gT s.ts 0).ks).length)))] 64)), (nb ρ2 6, (cL (TmA.row (gT s.ts 0)) 46))] ?_
 refine oN ?_
 refine sS Tryz.f26 2 [0, 2, 3, 4, 5, 50] [] (fun _ => [(.bool false), (.bool false)]) (fun _ => []) (cA (v := fun ρ => (.bool (((gT s.ts 0).kd) == 2))) (fun _ => (.bool false)) (fun _ => congrArg Value.bool (show (((gT s.ts 0).kd) == 2) = false by rw [show (gT s.ts 0).kd = 5 from hk]; rfl)) <| cR [[]] <| cN) (fun _ => ?_)
 refine oN ?_
 refine ok_skip ?_
 refine mt_block_n ?_
 refine mt_then ?_
 refine sSf Tryz.f26 7 [0, 2, 3, 4, 6, 7] [] (fun ρ => [(pt g), (.tuple #[(.slice (oa ρ 1) (x).length (nb ρ 1)), (vi 0)]), (.tuple #[(.slice (oa ρ 1) (x).length (nb ρ 1)), (vi 0)]), (.slice (oa ρ 1) (x).length (nb ρ 1)), (vi 0), (.slice (oa ρ 1) (x).length (nb ρ 1)), (vi 0)]) (fun _ => [(1, (pwt 0 g (cL #[(.slice s1.ta (s1.ts).length s1.tc), (.slice s1.ka (s1.ns).length s1.kc)] 64)))]) (fun ρ => [(1, fun w => Fs w0 w (oa ρ 1) (nb ρ 1) x)]) (fun ρ => (fun w => TmF w s.ta s.tc s.ts ∧ Us w s.ka s.kc s.ns ∧ TmF w (if s.tc = 1 then s.ta else (s.ta).map (·.add (1 * 36))) (s.tc - 1) ((s.ts).tail) ∧ Us w s.ka s.kc ((s.ns).take (((gT s.ts 0).ks).length)) ∧ Us w (if s.kc = (((gT s.ts 0).ks).length) then s.ka else (s.ka).map (·.add ((((gT s.ts 0).ks).length) * 4))) (s.kc - (((gT s.ts 0).ks).length)) ((s.ns).drop (((gT s.ts 0).ks).length)) ∧ Fs w0 w (oa ρ 1) (nb ρ 1) x ∧ True)) (fun _ => True) (fun _ _ hF hf => ⟨⟨hF.1, hF.2.1, hF.2.2.1, hF.2.2.2.1, hF.2.2.2.2.1, hf 1, trivial⟩, trivial⟩) (cR [[]] <| cX (qWB [0] (fun _ _ w hG hK => ih w hK (hG.pK [0] (fun _ hF => ⟨hF.2.2.1, hF.2.2.2.2.1, trivial⟩)) )) <| cR [[], [], [], [], []] <| cN) (fun ρ9 _ => ?_)
 refine ok_seq ?_
 refine sS Tryz.f26 2 [0, 2, 3, 4, 6, 7, 64] [] (fun _ => [(vi 0), (.bool false)]) (fun _ => []) (cR [[], []] <| cN) (fun _ => ?_)
 refine oN ?_
 refine ok_skip ?_
 refine mt_then ?_
 refine ok_seq ?_
 refine sS Tryz.f26 2 [0, 2, 3, 4, 6, 7, 67] [] (fun _ => [(pt (nb ρ2 6)), (vi ((gT s.ts 0).kd))]) (fun _ => []) (cR [[], [1]] <| cN) (fun _ => ?_)
 refine ok_block ?_
 refine sS Tryz.f26 2 [0, 2, 3, 4, 6, 7, 67, 68] [] (fun _ => [(.bool false), (.bool false)]) (fun _ => []) (cA (v := fun ρ => (.bool (((gT s.ts 0).kd) == 3))) (fun _ => (.bool false)) (fun _ => congrArg Value.bool (show (((gT s.ts 0).kd) == 3) = false by rw [show (gT s.ts 0).kd = 5 from hk]; rfl)) <| cR [[]] <| cN) (fun _ => ?_)
 refine oN ?_
 refine sS Tryz.f26 2 [0, 2, 3, 4, 6, 7, 67, 74] [] (fun _ => [(.bool false), (.bool false)]) (fun _ => []) (cA (v := fun ρ => (.bool (((gT s.ts 0).kd) == 4))) (fun _ => (.bool false)) (fun _ => congrArg Value.bool (show (((gT s.ts 0).kd) == 4) = false by rw [show (gT s.ts 0).kd = 5 from hk]; rfl)) <| cR [[]] <| cN) (fun _ => ?_)
 refine oN ?_
 refine sS Tryz.f26 2 [0, 2, 3, 4, 6, 7, 80] [] (fun _ => [(.bool true), (.bool true)]) (fun _ => []) (cA (v := fun ρ => (.bool (((gT s.ts 0).kd) == 5))) (fun _ => (.bool true)) (fun _ => congrArg Value.bool (show (((gT s.ts 0).kd) == 5) = true by rw [show (gT s.ts 0).kd = 5 from hk]; rfl)) <| cR [[]] <| cN) (fun _ => ?_)
 refine dRs [(0, (pt g)), (2, (.slice none 0 0)), (3, (vi 0)), (4, (pt (nb ρ2 6))), (6, (.slice (oa ρ9 1) (x).length (nb ρ9 1))), (7, (vi 0)), (80, (.bool true))] [(g, (cL #[(.slice s1.ta (s1.ts).length s1.tc), (.slice s1.ka (s1.ns).length s1.kc)] 64)), (nb ρ2 6, (cL (TmA.row (gT s.ts 0)) 46))] ?_
 refine oY ?_
 refine sSf Tryz.f26 6 [0, 2, 3, 6, 7] [1, 0] (fun ρ => [(.pointer (some ⟨nb ρ2 6, 3, none⟩)), (.agg (hB ((gT s.ts 0).h))), (.slice (oa ρ9 1) (x).length (nb ρ9 1)), (.slice (oa ρ 3) (hsB ((gT s.ts 0).h) x).length (nb ρ 3)), (.slice (oa ρ 3) (hsB ((gT s.ts 0).h) x).length (nb ρ 3)), (vi 0)]) (fun _ => []) (fun ρ => [(3, fun w => Fs w0 w (oa ρ 3) (nb ρ 3) (hsB ((gT s.ts 0).h) x))]) (fun ρ => (fun w => TmF w s.ta s.tc s.ts ∧ Us w s.ka s.kc s.ns ∧ TmF w (if s.tc = 1 then s.ta else (s.ta).map (·.add (1 * 36))) (s.tc - 1) ((s.ts).tail) ∧ Us w s.ka s.kc ((s.ns).take (((gT s.ts 0).ks).length)) ∧ Us w (if s.kc = (((gT s.ts 0).ks).length) then s.ka else (s.ka).map (·.add ((((gT s.ts 0).ks).length) * 4))) (s.kc - (((gT s.ts 0).ks).length)) ((s.ns).drop (((gT s.ts 0).ks).length)) ∧ Fs w0 w (oa ρ9 1) (nb ρ9 1) x ∧ Fs w0 w (oa ρ 3) (nb ρ 3) (hsB ((gT s.ts 0).h) x) ∧ True)) (fun _ => True) (fun _ _ hF hf => ⟨⟨hF.1, hF.2.1, hF.2.2.1, hF.2.2.2.1, hF.2.2.2.2.1, hF.2.2.2.2.2.1, hf 3, trivial⟩, trivial⟩) (cR [[], [1], []] <| cX (qB (fun _ _ w hG => hashed_any ((gT s.ts 0).h) (oa ρ9 1) (nb ρ9 1) x (ho.gT 0).h hx w hG.facts0.now.2.2.2.2.2.1.1)) <| cR [[], []] <| cN) (fun ρ15 _ => ?_)
 refine ok_ret ?_
 refine mt_block_r ?_
 refine mt_then_r ?_
 refine mD [(0, (pt g)), (2, (.slice (oa ρ15 3) (hsB ((gT s.ts 0).h) x).length (nb ρ15 3))), (3, (vi 0)), (6, (.slice (oa ρ9 1) (x).length (nb ρ9 1))), (7, (vi 0))] [(g, (cL #[(.slice s1.ta (s1.ts).length s1.tc), (.slice s1.ka (s1.ns).length s1.kc)] 64))] ?_
 exact mR (v := (.tuple #[(.slice (oa ρ15 3) (hsB ((gT s.ts 0).h) x).length (nb ρ15 3)), (vi 0)])) (fun _ hS => ⟨oa ρ15 3, nb ρ15 3, rfl, hS.below, hS.knows [1], fs_eq (rfl) hS.facts.now.2.2.2.2.2.2.1⟩)
theorem next6_any (g : Nat) (s : Mk) (x : List UInt8) (s1 : Mk) (y : List UInt8) (s2 : Mk) (hk : s.fst.kd = 6) (hc : s.can = true) (_ho : TsOk s.ts) (_hU : ∀ n ∈ s.ns, n < M) (hx : x.length ≤ 1000000) (hy : y.length ≤ 1000000) (w0 : World) (hK : Knows [(g, (cL #[(.slice s.ta (s.ts).length s.tc), (.slice s.ka (s.ns).length s.kc)] 64))] w0) (hP : Pers (fun b => b ∈ ([(g, (cL #[(.slice s.ta (s.ts).length s.tc), (.slice s.ka (s.ns).length s.kc)] 64))] : List (Nat × Obj)).map (·.1)) (fun w => TmF w s.ta s.tc s.ts ∧ Us w s.ka s.kc s.ns ∧ TmF w s1.ta s1.tc s1.ts ∧ Us w s1.ka s1.kc s1.ns ∧ True) w0) (ih : NextC g s.go x s1) (ih2 : NextC g s1 y s2) : Calls Tryz.prog 26 #[(pt g)] w0 (fun ε w' => ∃ α κ, ε = .returned (.tuple #[.slice α (eiB x y).length κ, .int .i64 0]) ∧ Upd (fun b => b ∈ ([(g, (cL #[(.slice s.ta (s.ts).length s.tc), (.slice s.ka (s.ns).length s.kc)] 64))] : List (Nat × Obj)).map (·.1)) w0 w' ∧ Knows [(g, (cL #[(.slice s2.ta (s2.ts).length s2.tc), (.slice s2.ka (s2.ns).length s2.kc)] 64))] w' ∧ Fs w0 w' α κ (eiB x y)) := by
 refine Calls.of_okW (n := 97) (F := (fun w => TmF w s.ta s.tc s.ts ∧ Us w s.ka s.kc s.ns ∧ TmF w s1.ta s1.tc s1.ts ∧ Us w s1.ka s1.kc s1.ns ∧ True)) [(g, (cL #[(.slice s.ta (s.ts).length s.tc), (.slice s.ka (s.ns).length s.kc)] 64))] Tryz.func26 rfl rfl rfl (by simp) hK (by simp) hP ?_
 refine sS Tryz.f26 2 [0, 2, 3] [] (fun _ => [(.slice none 0 0), (vi 0)]) (fun _ => []) (cR [[], []] <| cN) (fun _ => ?_)
 refine sS Tryz.f26 8 [0, 2, 3, 4] [] (fun ρ => [(pt g), (pt g), (pt g), (.slice s.ta (s.ts).length s.tc), (.pointer (adr s.ta (0 * 36))), (.agg (TmA.row (gT s.ts 0))), (pt (nb ρ 6)), undef]) (fun ρ => [(6, (nw ρ 6 (cL (tmV 0 0 0 0 (.slice none 0 0)) 46))), (7, (pwt 49 (nb ρ 6) (cL (TmA.row (gT s.ts 0)) 46)))]) (cR [[], [], [], [0]] <| cX (qF (fun _ _ _ hG => TmF.idx (k := .i64) Tryz.underlying24 Tryz.sizeOf46 hG.facts0.now.1 rfl ((show (0 : Int) = ((0 : Nat) : Int) ∧ 0 < (s.ts).length from ⟨rfl, can_pos hc⟩)).1 ((show (0 : Int) = ((0 : Nat) : Int) ∧ 0 < (s.ts).length from ⟨rfl, can_pos hc⟩)).2)) <| cX (qF (fun _ _ _ hG => TmF.ldA (i := 0) Tryz.isAgg46 Tryz.sizeOf46 hG.facts0.now.1 ((show (0 : Int) = ((0 : Nat) : Int) ∧ 0 < (s.ts).length from ⟨rfl, can_pos hc⟩)).2)) <| cR [[], [49]] <| cN) (fun ρ2 => ?_)
 refine sSf Tryz.f26 9 [0, 2, 3, 4] [] (fun _ => [(pt g), (pt g), (pt g), (pt g), (.slice s.ta (s.ts).length s.tc), (.slice (if s.tc = 1 then s.ta else (s.ta).map (·.add (1 * 36))) ((s.ts).tail).length (s.tc - 1)), (pt g), (pt g), undef]) (fun _ => [(8, (pwt 0 g (cL #[(.slice (if s.tc = 1 then s.ta else (s.ta).map (·.add (1 * 36))) ((s.ts).tail).length (s.tc - 1)), (.slice s.ka (s.ns).length s.kc)] 64)))]) (fun _ => [(5, fun w => TmF w (if s.tc = 1 then s.ta else (s.ta).map (·.add (1 * 36))) (s.tc - 1) ((s.ts).tail))]) (fun _ => (fun w => TmF w s.ta s.tc s.ts ∧ Us w s.ka s.kc s.ns ∧ TmF w s1.ta s1.tc s1.ts ∧ Us w s1.ka s1.kc s1.ns ∧ TmF w (if s.tc = 1 then s.ta else (s.ta).map (·.add (1 * 36))) (s.tc - 1) ((s.ts).tail) ∧ True)) (fun _ => True) (fun _ _ hF hf => ⟨⟨hF.1, hF.2.1, hF.2.2.1, hF.2.2.2.1, hf 5, trivial⟩, trivial⟩) (cR [[], [], [], [], [0]] <| cX (o_semF _ (fun _ => do pure (Next.value (← Instr.sliceAt 24 (.slice s.ta (s.ts).length s.tc) (some (vi 1)) none none))) (fun _ => (.slice (if s.tc = 1 then s.ta else (s.ta).map (·.add (1 * 36))) ((s.ts).tail).length (s.tc - 1))) (fun _ => (by kernel_rfl)) (fun _ => (by kernel_rfl)) (fun _ _ _ hG => slice_lo (k := 1) Tryz.underlying24 Tryz.sizeOf46 rfl (congrArg (Value.int .i64) (rfl)) (can_pos hc) (hG.facts0.now.1).le (by rw [List.length_tail])) (fun _ _ w hG => (hG.facts0).mono (fun _ hF => (hF.1).tail (can_pos hc)))) <| cR [[], [], [0]] <| cN) (fun _ _ => ?_)
 refine sDf Tryz.f26 [0, 1, 3, 7, 0, 16, 48, 127, 255] 9 [0, 2, 3, 4, 5] [] (fun _ => [(pt g), (pt g), (.pointer (some ⟨g, 1, none⟩)), (.slice s.ka (s.ns).length s.kc), (.pointer (some ⟨nb ρ2 6, 35, none⟩)), (.slice ((gT s.ts 0).ka) ((gT s.ts 0).ks).length ((gT s.ts 0).kc)), (vn (((gT s.ts 0).ks).length)), (.slice s.ka ((s.ns).take (((gT s.ts 0).ks).length)).length s.kc), (.slice s.ka ((s.ns).take (((gT s.ts 0).ks).length)).length s.kc)]) (fun _ => []) (fun _ => [(7, fun w => Us w s.ka s.kc ((s.ns).take (((gT s.ts 0).ks).length)))]) (fun _ => (fun w => TmF w s.ta s.tc s.ts ∧ Us w s.ka s.kc s.ns ∧ TmF w s1.ta s1.tc s1.ts ∧ Us w s1.ka s1.kc s1.ns ∧ TmF w (if s.tc = 1 then s.ta else (s.ta).map (·.add (1 * 36))) (s.tc - 1) ((s.ts).tail) ∧ Us w s.ka s.kc ((s.ns).take (((gT s.ts 0).ks).length)) ∧ True)) (fun _ => True) (fun _ _ hF hf => ⟨⟨hF.1, hF.2.1, hF.2.2.1, hF.2.2.2.1, hF.2.2.2.2.1, hf 7, trivial⟩, trivial⟩) (cR [[], [], [], [0], [], [1], []] <| cX (o_semF _ (fun _ => do pure (Next.value (← Instr.sliceAt 29 (.slice s.ka (s.ns).length s.kc) none (some (vn (((gT s.ts 0).ks).length))) none))) (fun _ => (.slice s.ka ((s.ns).take (((gT s.ts 0).ks).length)).length s.kc)) (fun _ => (by kernel_rfl)) (fun _ => (by kernel_rfl)) (fun _ _ _ hG => slice_hi (k := ((gT s.ts 0).ks).length) Tryz.underlying29 Tryz.sizeOf39 rfl (congrArg (Value.int .i64) (rfl)) (can_ks hc) (hG.facts0.now.2.1).le (by rw [List.length_take]; exact (Nat.min_eq_left (can_ks hc)).symm)) (fun _ _ w hG => (hG.facts0).mono (fun _ hF => (hF.2.1).take (((gT s.ts 0).ks).length)))) <| cR [[]] <| cN) (fun _ _ => ?_)
 refine sDf Tryz.f26 [0, 0, 2, 6, 14, 0, 32, 96, 254, 511, 1023, 2047] 12 [0, 2, 3, 4, 5] [] (fun _ => [(pt g), (pt g), (pt g), (.pointer (some ⟨g, 1, none⟩)), (.slice s.ka (s.ns).length s.kc), (.pointer (some ⟨nb ρ2 6, 35, none⟩)), (.slice ((gT s.ts 0).ka) ((gT s.ts 0).ks).length ((gT s.ts 0).kc)), (vn (((gT s.ts 0).ks).length)), (.slice (if s.kc = (((gT s.ts 0).ks).length) then s.ka else (s.ka).map (·.add ((((gT s.ts 0).ks).length) * 4))) ((s.ns).drop (((gT s.ts 0).ks).length)).length (s.kc - (((gT s.ts 0).ks).length))), (pt g), (.pointer (some ⟨g, 1, none⟩)), undef]) (fun _ => [(11, (pwt 0 g (cL #[(.slice (if s.tc = 1 then s.ta else (s.ta).map (·.add (1 * 36))) ((s.ts).tail).length (s.tc - 1)), (.slice (if s.kc = (((gT s.ts 0).ks).length) then s.ka else (s.ka).map (·.add ((((gT s.ts 0).ks).length) * 4))) ((s.ns).drop (((gT s.ts 0).ks).length)).length (s.kc - (((gT s.ts 0).ks).length)))] 64)))]) (fun _ => [(8, fun w => Us w (if s.kc = (((gT s.ts 0).ks).length) then s.ka else (s.ka).map (·.add ((((gT s.ts 0).ks).length) * 4))) (s.kc - (((gT s.ts 0).ks).length)) ((s.ns).drop (((gT s.ts 0).ks).length)))]) (fun _ => (fun w => TmF w s.ta s.tc s.ts ∧ Us w s.ka s.kc s.ns ∧ TmF w s1.ta s1.tc s1.ts ∧ Us w s1.ka s1.kc s1.ns ∧ TmF w (if s.tc = 1 then s.ta else (s.ta).map (·.add (1 * 36))) (s.tc - 1) ((s.ts).tail) ∧ Us w s.ka s.kc ((s.ns).take (((gT s.ts 0).ks).length)) ∧ Us w (if s.kc = (((gT s.ts 0).ks).length) then s.ka else (s.ka).map (·.add ((((gT s.ts 0).ks).length) * 4))) (s.kc - (((gT s.ts 0).ks).length)) ((s.ns).drop (((gT s.ts 0).ks).length)) ∧ True)) (fun _ => True) (fun _ _ hF hf => ⟨⟨hF.1, hF.2.1, hF.2.2.1, hF.2.2.2.1, hF.2.2.2.2.1, hF.2.2.2.2.2.1, hf 8, trivial⟩, trivial⟩) (cR [[], [], [], [], [0], [], [1], []] <| cX (o_semF _ (fun _ => do pure (Next.value (← Instr.sliceAt 29 (.slice s.ka (s.ns).length s.kc) (some (vn (((gT s.ts 0).ks).length))) none none))) (fun _ => (.slice (if s.kc = (((gT s.ts 0).ks).length) then s.ka else (s.ka).map (·.add ((((gT s.ts 0).ks).length) * 4))) ((s.ns).drop (((gT s.ts 0).ks).length)).length (s.kc - (((gT s.ts 0).ks).length)))) (fun _ => (by kernel_rfl)) (fun _ => (by kernel_rfl)) (fun _ _ _ hG => slice_lo (k := ((gT s.ts 0).ks).length) Tryz.underlying29 Tryz.sizeOf39 rfl (congrArg (Value.int .i64) (rfl)) (can_ks hc) (hG.facts0.now.2.1).le (by rw [List.length_drop])) (fun _ _ w hG => (hG.facts0).mono (fun _ hF => (hF.2.1).drop (can_ks hc)))) <| cR [[], [], [0]] <| cN) (fun _ _ => ?_)
 refine ok_seq ?_
 refine sS Tryz.f26 2 [0, 2, 3, 4, 5, 43] [] (fun _ => [(pt (nb ρ2 6)), (vi ((gT s.ts 0).kd))]) (fun _ => []) (cR [[], [1]] <| cN) (fun _ => ?_)
 refine ok_block ?_
 refine sS Tryz.f26 2 [0, 2, 3, 4, 5, 43, 44] [] (fun _ => [(.bool false), (.bool false)]) (fun _ => []) (cA (v := fun ρ => (.bool (((gT s.ts 0).kd) == 1))) (fun _ => (.bool false)) (fun _ => congrArg Value.bool (show (((gT s.ts 0).kd) == 1) = false by rw [show (gT s.ts 0).kd = 6 from hk]; rfl)) <| cR [[]] <| cN) (fun _ => ?_)
 refine dRs [(0, (pt g)), (2, (.slice none 0 0)), (3, (vi 0)), (4, (pt (nb ρ2 6))), (5, (.slice s.ka ((s.ns).take (((gT s.ts 0).ks).length)).length s.kc)), (43, (vi ((gT s.ts 0).kd))), (44, (.bool false))] [(g, (cL #[(.slice (if s.tc = 1 then s.ta else (s.ta).map (·.add (1 * 36))) ((s.ts).tail).length (s.tc - 1)), (.slice (if s.kc = (((gT s.ts 0).ks).length) then s.ka else (s.ka).map (·.add ((((gT s.ts 0).ks).length) * 4))) ((s.ns).drop (((gT s.ts 0).ks).length)).length (s.kc - (((gT s.ts 0).ks).length)))] 64)), (nb ρ2 6, (cL (TmA.row (gT s.ts 0)) 46))] ?_
 refine oN ?_
 refine sS Tryz.f26 2 [0, 2, 3, 4, 5, 50] [] (fun _ => [(.bool false), (.bool false)]) (fun _ => []) (cA (v := fun ρ => (.bool (((gT s.ts 0).kd) == 2))) (fun _ => (.bool false)) (fun _ => congrArg Value.bool (show (((gT s.ts 0).kd) == 2) = false by rw [show (gT s.ts 0).kd = 6 from hk]; rfl)) <| cR [[]] <| cN) (fun _ => ?_)
 refine oN ?_
 refine ok_skip ?_
 refine mt_block_n ?_
 refine mt_then ?_
 refine sSf Tryz.f26 7 [0, 2, 3, 4, 6, 7] [] (fun ρ => [(pt g), (.tuple #[(.slice (oa ρ 1) (x).length (nb ρ 1)), (vi 0)]), (.tuple #[(.slice (oa ρ 1) (x).length (nb ρ 1)), (vi 0)]), (.slice (oa ρ 1) (x).length (nb ρ 1)), (vi 0), (.slice (oa ρ 1) (x).length (nb ρ 1)), (vi 0)]) (fun _ => [(1, (pwt 0 g (cL #[(.slice s1.ta (s1.ts).length s1.tc), (.slice s1.ka (s1.ns).length s1.kc)] 64)))]) (fun ρ => [(1, fun w => Fs w0 w (oa ρ 1) (nb ρ 1) x)]) (fun ρ => (fun w => TmF w s.ta s.tc s.ts ∧ Us w s.ka s.kc s.ns ∧ TmF w s1.ta s1.tc s1.ts ∧ Us w s1.ka s1.kc s1.ns ∧ TmF w (if s.tc = 1 then s.ta else (s.ta).map (·.add (1 * 36))) (s.tc - 1) ((s.ts).tail) ∧ Us w s.ka s.kc ((s.ns).take (((gT s.ts 0).ks).length)) ∧ Us w (if s.kc = (((gT s.ts 0).ks).length) then s.ka else (s.ka).map (·.add ((((gT s.ts 0).ks).length) * 4))) (s.kc - (((gT s.ts 0).ks).length)) ((s.ns).drop (((gT s.ts 0).ks).length)) ∧ Fs w0 w (oa ρ 1) (nb ρ 1) x ∧ True)) (fun _ => True) (fun _ _ hF hf => ⟨⟨hF.1, hF.2.1, hF.2.2.1, hF.2.2.2.1, hF.2.2.2.2.1, hF.2.2.2.2.2.1, hF.2.2.2.2.2.2.1, hf 1, trivial⟩, trivial⟩) (cR [[]] <| cX (qWB [0] (fun _ _ w hG hK => ih w hK (hG.pK [0] (fun _ hF => ⟨hF.2.2.2.2.1, hF.2.2.2.2.2.2.1, trivial⟩)) )) <| cR [[], [], [], [], []] <| cN) (fun ρ9 _ => ?_)
 refine ok_seq ?_
 refine sS Tryz.f26 2 [0, 2, 3, 4, 6, 7, 64] [] (fun _ => [(vi 0), (.bool false)]) (fun _ => []) (cR [[], []] <| cN) (fun _ => ?_)
 refine oN ?_
 refine ok_skip ?_
 refine mt_then ?_
 refine ok_seq ?_
 refine sS Tryz.f26 2 [0, 2, 3, 4, 6, 7, 67] [] (fun _ => [(pt (nb ρ2 6)), (vi ((gT s.ts 0).kd))]) (fun _ => []) (cR [[], [1]] <| cN) (fun _ => ?_)
 refine ok_block ?_
 refine sS Tryz.f26 2 [0, 2, 3, 4, 6, 7, 67, 68] [] (fun _ => [(.bool false), (.bool false)]) (fun _ => []) (cA (v := fun ρ => (.bool (((gT s.ts 0).kd) == 3))) (fun _ => (.bool false)) (fun _ => congrArg Value.bool (show (((gT s.ts 0).kd) == 3) = false by rw [show (gT s.ts 0).kd = 6 from hk]; rfl)) <| cR [[]] <| cN) (fun _ => ?_)
 refine oN ?_
 refine sS Tryz.f26 2 [0, 2, 3, 4, 6, 7, 67, 74] [] (fun _ => [(.bool false), (.bool false)]) (fun _ => []) (cA (v := fun ρ => (.bool (((gT s.ts 0).kd) == 4))) (fun _ => (.bool false)) (fun _ => congrArg Value.bool (show (((gT s.ts 0).kd) == 4) = false by rw [show (gT s.ts 0).kd = 6 from hk]; rfl)) <| cR [[]] <| cN) (fun _ => ?_)
 refine oN ?_
 refine sS Tryz.f26 2 [0, 2, 3, 4, 6, 7, 80] [] (fun _ => [(.bool false), (.bool false)]) (fun _ => []) (cA (v := fun ρ => (.bool (((gT s.ts 0).kd) == 5))) (fun _ => (.bool false)) (fun _ => congrArg Value.bool (show (((gT s.ts 0).kd) == 5) = false by rw [show (gT s.ts 0).kd = 6 from hk]; rfl)) <| cR [[]] <| cN) (fun _ => ?_)
 refine dRs [(0, (pt g)), (2, (.slice none 0 0)), (3, (vi 0)), (4, (pt (nb ρ2 6))), (6, (.slice (oa ρ9 1) (x).length (nb ρ9 1))), (7, (vi 0)), (80, (.bool false))] [(g, (cL #[(.slice s1.ta (s1.ts).length s1.tc), (.slice s1.ka (s1.ns).length s1.kc)] 64)), (nb ρ2 6, (cL (TmA.row (gT s.ts 0)) 46))] ?_
 refine oN ?_
 refine ok_skip ?_
 refine mt_block_n ?_
 refine mt_then ?_
 refine sSf Tryz.f26 7 [2, 3, 6, 7, 8] [1, 0] (fun ρ => [(pt g), (.tuple #[(.slice (oa ρ 1) (y).length (nb ρ 1)), (vi 0)]), (.tuple #[(.slice (oa ρ 1) (y).length (nb ρ 1)), (vi 0)]), (.slice (oa ρ 1) (y).length (nb ρ 1)), (vi 0), (.slice (oa ρ 1) (y).length (nb ρ 1)), (vi 0)]) (fun _ => [(1, (pwt 0 g (cL #[(.slice s2.ta (s2.ts).length s2.tc), (.slice s2.ka (s2.ns).length s2.kc)] 64)))]) (fun ρ => [(1, fun w => Fs w0 w (oa ρ 1) (nb ρ 1) y)]) (fun ρ => (fun w => TmF w s.ta s.tc s.ts ∧ Us w s.ka s.kc s.ns ∧ TmF w s1.ta s1.tc s1.ts ∧ Us w s1.ka s1.kc s1.ns ∧ TmF w (if s.tc = 1 then s.ta else (s.ta).map (·.add (1 * 36))) (s.tc - 1) ((s.ts).tail) ∧ Us w s.ka s.kc ((s.ns).take (((gT s.ts 0).ks).length)) ∧ Us w (if s.kc = (((gT s.ts 0).ks).length) then s.ka else (s.ka).map (·.add ((((gT s.ts 0).ks).length) * 4))) (s.kc - (((gT s.ts 0).ks).length)) ((s.ns).drop (((gT s.ts 0).ks).length)) ∧ Fs w0 w (oa ρ9 1) (nb ρ9 1) x ∧ Fs w0 w (oa ρ 1) (nb ρ 1) y ∧ True)) (fun _ => True) (fun _ _ hF hf => ⟨⟨hF.1, hF.2.1, hF.2.2.1, hF.2.2.2.1, hF.2.2.2.2.1, hF.2.2.2.2.2.1, hF.2.2.2.2.2.2.1, hF.2.2.2.2.2.2.2.1, hf 1, trivial⟩, trivial⟩) (cR [[]] <| cX (qWB [0] (fun _ _ w hG hK => ih2 w hK (hG.pK [0] (fun _ hF => ⟨hF.2.2.1, hF.2.2.2.1, trivial⟩)) )) <| cR [[], [], [], [], []] <| cN) (fun ρ15 _ => ?_)
 refine ok_seq ?_
 refine sS Tryz.f26 2 [2, 3, 6, 7, 8, 92] [] (fun _ => [(vi 0), (.bool false)]) (fun _ => []) (cR [[], []] <| cN) (fun _ => ?_)
 refine oN ?_
 refine ok_skip ?_
 refine mt_then ?_
 refine sSf Tryz.f26 5 [2, 3] [] (fun ρ => [(.slice (oa ρ9 1) (x).length (nb ρ9 1)), (.slice (oa ρ15 1) (y).length (nb ρ15 1)), (.slice (oa ρ 2) (eiB x y).length (nb ρ 2)), (.slice (oa ρ 2) (eiB x y).length (nb ρ 2)), (vi 0)]) (fun _ => []) (fun ρ => [(2, fun w => Fs w0 w (oa ρ 2) (nb ρ 2) (eiB x y))]) (fun ρ => (fun w => TmF w s.ta s.tc s.ts ∧ Us w s.ka s.kc s.ns ∧ TmF w s1.ta s1.tc s1.ts ∧ Us w s1.ka s1.kc s1.ns ∧ TmF w (if s.tc = 1 then s.ta else (s.ta).map (·.add (1 * 36))) (s.tc - 1) ((s.ts).tail) ∧ Us w s.ka s.kc ((s.ns).take (((gT s.ts 0).ks).length)) ∧ Us w (if s.kc = (((gT s.ts 0).ks).length) then s.ka else (s.ka).map (·.add ((((gT s.ts 0).ks).length) * 4))) (s.kc - (((gT s.ts 0).ks).length)) ((s.ns).drop (((gT s.ts 0).ks).length)) ∧ Fs w0 w (oa ρ9 1) (nb ρ9 1) x ∧ Fs w0 w (oa ρ15 1) (nb ρ15 1) y ∧ Fs w0 w (oa ρ 2) (nb ρ 2) (eiB x y) ∧ True)) (fun _ => True) (fun _ _ hF hf => ⟨⟨hF.1, hF.2.1, hF.2.2.1, hF.2.2.2.1, hF.2.2.2.2.1, hF.2.2.2.2.2.1, hF.2.2.2.2.2.2.1, hF.2.2.2.2.2.2.2.1, hF.2.2.2.2.2.2.2.2.1, hf 2, trivial⟩, trivial⟩) (cR [[], []] <| cX (qB (fun _ _ w hG => either_any (oa ρ9 1) (nb ρ9 1) x (oa ρ15 1) (nb ρ15 1) y hx hy w hG.facts0.now.2.2.2.2.2.2.2.1.1 hG.facts0.now.2.2.2.2.2.2.2.2.1.1)) <| cR [[], []] <| cN) (fun ρ17 _ => ?_)
 refine ok_ret ?_
 refine mD [(2, (.slice (oa ρ17 2) (eiB x y).length (nb ρ17 2))), (3, (vi 0))] [(g, (cL #[(.slice s2.ta (s2.ts).length s2.tc), (.slice s2.ka (s2.ns).length s2.kc)] 64))] ?_
 exact mR (v := (.tuple #[(.slice (oa ρ17 2) (eiB x y).length (nb ρ17 2)), (vi 0)])) (fun _ hS => ⟨oa ρ17 2, nb ρ17 2, rfl, hS.below, hS.knows [1], fs_eq (rfl) hS.facts.now.2.2.2.2.2.2.2.2.2.1⟩)
theorem next_all (g : Nat) : ∀ (f : Nat) (s : Mk) (b : List UInt8) (s' : Mk), f ≤ 8 → nx f s = some (b, s') → (∀ t ∈ s.ts, t.kd = 2 → t.ks.length = 2) → NextC g s b s'
  | 0, _, _, _, _, h, _ => by simp [nx] at h
  | f + 1, s, b, s', hf, h, h2 => by
    intro w0 hK hP
    have ho := hP.now.1.oks
    have hU := hP.now.2.1.ok
    have hp : 2 ^ f ≤ 2 ^ 7 := Nat.pow_le_pow_right (by decide) (by omega)
    have big : ∀ {x : List UInt8} {s s1 : Mk}, nx f s = some (x, s1) → x.length ≤ 1000000 := fun h => by have := nx_len f _ _ _ h; omega
    unfold nx at h
    split at h
    · exact absurd h (by simp)
    rename_i hc
    have hc : s.can = true := by simpa using hc
    have hg := Left.go hc
    split at h
    · rename_i hk
      simp only [Option.some.injEq, Prod.mk.injEq] at h; rw [← h.1, ← h.2]
      exact next1_any g s hk hc ho hU w0 hK hP
    split at h
    · rename_i hk
      simp only [Option.some.injEq, Prod.mk.injEq] at h; rw [← h.1, ← h.2]
      exact next2_any g s hk hc ho hU (h2 _ (gT_mem (can_pos hc)) hk) w0 hK hP
    split at h
    · exact absurd h (by simp)
    rename_i a s1 e1
    have i1 := next_all g f _ _ _ (by omega) e1 fun t ht => h2 t (hg.m t ht)
    have l1 := hg.trans (nx_left f _ _ _ e1)
    split at h
    · rename_i hk
      simp only [Option.some.injEq, Prod.mk.injEq] at h; rw [← h.1, ← h.2]
      exact next3_any g s a s1 hk hc ho hU (big e1) w0 hK hP i1
    split at h
    · rename_i hk
      simp only [Option.some.injEq, Prod.mk.injEq] at h; rw [← h.1, ← h.2]
      exact next4_any g s a s1 hk hc ho hU (big e1) w0 hK hP i1
    split at h
    · rename_i hk
      simp only [Option.some.injEq, Prod.mk.injEq] at h; rw [← h.1, ← h.2]
      exact next5_any g s a s1 hk hc ho hU (big e1) w0 hK hP i1
    split at h
    · rename_i hk
      split at h
      · exact absurd h (by simp)
      rename_i b2 s2 e2
      have i2 := next_all g f _ _ _ (by omega) e2 fun t ht => h2 t (l1.m t ht)
      simp only [Option.some.injEq, Prod.mk.injEq] at h; rw [← h.1, ← h.2]
      exact next6_any g s a s1 b2 s2 hk hc ho hU (big e1) (big e2) w0 hK (hP.mono fun w hw => ⟨hw.1, hw.2.1, l1.t w hw.1, l1.u w hw.2.1, trivial⟩) i1 i2
    · exact absurd h (by simp)
theorem nextx_any {g : Nat} {a b : Option Addr} {c d : Nat} {ts : List TmA} {z : Int} (h0 : (kyE ts z != 0) = false) (h2 : ∀ t ∈ ts, t.kd = 2 → t.ks.length = 2) : NextC g (Mk.mk a c ts b d (kyN ts z)) (exL ts z) (nxS (Mk.mk a c ts b d (kyN ts z))) :=
  next_all g 8 _ _ _ (Nat.le_refl 8) (nxS_eq (nx_go (bneI0 h0) a c b d)) h2
theorem dhard_any (x : Nat) (w0 : World) : Calls Tryz.prog 59 #[(.int .u32 ((x : Nat) : Int))] w0 (fun ε w' => ε = .returned (.bool (hdB x)) ∧ Below w0.heap.size w0 w') := by
 refine Calls.of_ok (n := 5) (F := (fun _ => True)) Tryz.func59 rfl rfl rfl (by simp) (persTrue (fun _ => trivial)) ?_
 refine sS Tryz.f59 1 [0, 2] [] (fun _ => [(.bool false)]) (fun _ => []) (cR [[]] <| cN) (fun _ => ?_)
 refine sS Tryz.f59 3 [2] [] (fun _ => [(.int .u32 ((x : Nat) : Int)), (.bool (decide (2147483648 ≤ ((x : Nat) : Int)))), (.bool (decide (2147483648 ≤ ((x : Nat) : Int))))]) (fun _ => []) (cR [[], [], []] <| cN) (fun _ => ?_)
 refine ok_ret ?_
 exact mR (v := (.bool (decide (2147483648 ≤ ((x : Nat) : Int))))) (fun _ hS => ⟨congrArg (fun x => Ending.returned (.bool x)) (hd_dec x), hS.bel⟩)
theorem ixfunc_any (a : Option Addr) (c : Nat) (ps : List Nat) (w0 : World) (hf0 : Is w0 .u32 a c (nI ps)) : Calls Tryz.prog 91 #[(.slice a (nI ps).length c), (.func (.func 59) #[] #[])] w0 (fun ε w' => ε = .returned (vi (ixA ps 0)) ∧ Below w0.heap.size w0 w') := by
 refine Calls.of_ok (n := 19) (F := (fun w => Is w .u32 a c (nI ps) ∧ True)) Tryz.func91 rfl rfl rfl (by simp) (hf0.pers0.and persT) ?_
 have hlen : (nI ps).length ≤ 140737488351232 := hf0.max
 refine sS Tryz.f91 1 [0, 1, 4] [] (fun _ => [(vi 0)]) (fun _ => []) (cR [[]] <| cN) (fun _ => ?_)
 refine ok_seq ?_
 refine sS Tryz.f91 3 [0, 1, 4, 7, 8] [] (fun _ => [(.slice a (nI ps).length c), (vn ((nI ps).length)), (vi 0)]) (fun _ => []) (cR [[], [], []] <| cN) (fun _ => ?_)
 refine ok_block ?_
 refine oL (σ := Nat) (fun i => [(0, (.slice a (nI ps).length c)), (1, (.func (.func 59) #[] #[])), (7, (vn ((nI ps).length))), (8, (vn i))]) (fun _ => []) (fun i => (nI ps).length - i)
   (fun i => (i ≤ (nI ps).length) ∧ (ixA (ps.drop i) i = ixA ps 0)) 0 (⟨Nat.zero_le _, rfl⟩) [] ?_
 rintro i ⟨hi, hr⟩
 change Ok Tryz.prog _ _ 19 [(0, (.slice a (nI ps).length c)), (1, (.func (.func 59) #[] #[])), (7, (vn ((nI ps).length))), (8, (vn i))] _ [] (fun w => Is w .u32 a c (nI ps) ∧ True)
 refine sS Tryz.f91 1 [0, 1, 7, 8, 9] [] (fun _ => [(.bool (decide (((i : Nat) : Int) < (((nI ps).length : Nat) : Int))))]) (fun _ => []) (cR [[]] <| cN) (fun _ => ?_)
 refine ok_seq ?_
 refine oC (decide (((i : Nat) : Int) < (((nI ps).length : Nat) : Int))) (fun hb1 => ?_) (fun hb1 => ?_)
 ·
  rw [hb1]
  refine ok_skip ?_
  refine mt_then ?_
  refine ok_seq ?_
  refine ok_block ?_
  refine sS Tryz.f91 2 [0, 1, 5, 7, 8] [] (fun _ => [(vn i), (vn i)]) (fun _ => []) (cR [[], []] <| cN) (fun _ => ?_)
  refine sS Tryz.f91 6 [0, 1, 5, 7, 8, 16] [] (fun _ => [(.func (.func 59) #[] #[]), (.slice a (nI ps).length c), (vn i), (.pointer (adr a i)), (.int .u32 (((ps).getD i 0 : Nat) : Int)), (.bool (hdB ((ps).getD i 0)))]) (fun _ => []) (cR [[], [], []] <| cX (qF (fun _ _ _ hG => idx_ints (k := .i64) Tryz.underlying49 Tryz.sizeOf41 hG.facts0.now.1 rfl ((show ((i : Nat) : Int) = ((i : Nat) : Int) ∧ i < (nI ps).length from ⟨rfl, (by have := yT hb1; have := hlen; have := hi; omega)⟩)).1 ((show ((i : Nat) : Int) = ((i : Nat) : Int) ∧ i < (nI ps).length from ⟨rfl, (by have := yT hb1; have := hlen; have := hi; omega)⟩)).2)) <| cX (qF (v := fun ρ => (.int .u32 (((ps).getD i 0 : Nat) : Int))) (fun _ _ _ hG => (ld_ints Tryz.isAgg41 hG.facts0.now.1 ((show ((i : Nat) : Int) = ((i : Nat) : Int) ∧ i < (nI ps).length from ⟨rfl, (by have := yT hb1; have := hlen; have := hi; omega)⟩)).2).trans (by rw [nI_get]))) <| cC (fun _ w => dhard_any ((ps).getD i 0) w) <| cN) (fun _ => ?_)
  refine oC (hdB ((ps).getD i 0)) (fun hb2 => ?_) (fun hb2 => ?_)
  ·
   rw [hb2]
   refine sS Tryz.f91 2 [0, 1, 4, 7, 8] [] (fun _ => [(vn i), (vn i)]) (fun _ => []) (cR [[], []] <| cN) (fun _ => ?_)
   refine ok_ret ?_
   refine mt_block_r ?_
   refine mt_then_r ?_
   refine mt_then_r ?_
   refine mt_block_r ?_
   refine mt_then_r ?_
   exact mR (v := (vn i)) (fun _ hS => ⟨congrArg (fun x => Ending.returned (vi x)) (ix_stop (by have := nI_len ps; have := yT hb1; have := hlen; have := hi; omega) hb2 hr), hS.bel⟩)
  ·
   rw [hb2]
   refine ok_skip ?_
   refine mt_block_n ?_
   refine mt_then ?_
   refine rS Tryz.f91 2 [0, 1, 7, 8] [] (fun _ => [(vn (i + 1)), (vn (i + 1))]) (fun _ => []) (cA (v := fun ρ => (vi (IntKind.i64.wrap (((i : Nat) : Int) + 1)))) (fun _ => (vn (i + 1))) (fun _ => congrArg (Value.int .i64) (wrap_addN i 1 (by have := yT hb1; have := hlen; have := hi; omega))) <| cR [[]] <| cN) (fun _ => ?_)
   exact mN (i + 1) (by show (nI ps).length - (i + 1) < (nI ps).length - i; have := yT hb1; have := hlen; have := hi; omega) (⟨(by have := yT hb1; have := hlen; have := hi; omega), ix_next (by have := nI_len ps; have := yT hb1; have := hlen; have := hi; omega) hb2 hr⟩) []
 ·
  rw [hb1]
  refine ok_exit ?_
  refine mt_then_e ?_
  refine mt_then_e ?_
  refine mt_block_h ?_
  refine mt_then ?_
  refine sS Tryz.f91 1 [4] [] (fun _ => [(vi (-1))]) (fun _ => []) (cR [[]] <| cN) (fun _ => ?_)
  refine ok_ret ?_
  exact mR (v := (vi (-1))) (fun _ hS => ⟨congrArg (fun x => Ending.returned (vi x)) (ix_end (by have := nI_len ps; have := yF hb1; have := hlen; have := hi; omega) hr), hS.bel⟩)
theorem cofunc_any (a : Option Addr) (c : Nat) (ps : List Nat) (w0 : World) (hf0 : Is w0 .u32 a c (nI ps)) : Calls Tryz.prog 58 #[(.slice a (nI ps).length c), (.func (.func 59) #[] #[])] w0 (fun ε w' => ε = .returned (.bool (ps.any hdB)) ∧ Below w0.heap.size w0 w') := by
 refine Calls.of_ok (n := 9) (F := (fun w => Is w .u32 a c (nI ps) ∧ True)) Tryz.func58 rfl rfl rfl (by simp) (hf0.pers0.and persT) ?_
 refine sS Tryz.f58 1 [0, 1, 4] [] (fun _ => [(.bool false)]) (fun _ => []) (cR [[]] <| cN) (fun _ => ?_)
 refine sS Tryz.f58 5 [4] [] (fun _ => [(.slice a (nI ps).length c), (.func (.func 59) #[] #[]), (vi (ixA ps 0)), (.bool (decide (0 ≤ (ixA ps 0)))), (.bool (decide (0 ≤ (ixA ps 0))))]) (fun _ => []) (cR [[], []] <| cX (qC (fun _ _ w hG => ixfunc_any a c ps w hG.facts0.now.1)) <| cR [[], []] <| cN) (fun _ => ?_)
 refine ok_ret ?_
 exact mR (v := (.bool (decide (0 ≤ (ixA ps 0))))) (fun _ hS => ⟨congrArg (fun x => Ending.returned (.bool x)) (ixA_any ps 0), hS.bel⟩)
theorem dvpath_any (p : KpA) (hp : p.Ok) (w0 : World) (hf0 : Is w0 .u32 p.pa p.pc (nI p.ps)) : Calls Tryz.prog 34 #[(.agg (KpA.row p))] w0 (fun ε w' => ε = .returned (.bool (KpA.vp p)) ∧ Below w0.heap.size w0 w') := by
 refine Calls.of_ok (n := 40) (F := (fun w => Is w .u32 p.pa p.pc (nI p.ps) ∧ True)) Tryz.func34 rfl rfl rfl (by simp) (hf0.pers0.and persT) ?_
 have hlen : (nI p.ps).length ≤ 140737488351232 := hf0.max
 have hnl : (nI p.ps).length = p.ps.length := nI_len p.ps
 refine sS Tryz.f34 2 [1, 2] [] (fun ρ => [(pt (nb ρ 0)), (.bool false)]) (fun ρ => [(0, (nw ρ 0 (cL (KpA.row p) 51)))]) (cR [[], []] <| cN) (fun ρ1 => ?_)
 refine ok_seq ?_
 rcases Bool.eq_false_or_eq_true (decide (8 < (((nI p.ps).length : Nat) : Int))) with hb1 | hb1
 ·
  refine sS Tryz.f34 10 [1, 2, 14] [] (fun _ => [(.pointer (some ⟨nb ρ1 0, 43, none⟩)), (.slice p.pa (nI p.ps).length p.pc), (vn ((nI p.ps).length)), (.bool true), (.bool true), undef, undef, undef, undef, (.bool true)]) (fun _ => []) (cR [[], [0], []] <| cA (fun _ => (.bool true)) (fun _ => congrArg Value.bool hb1) <| cR [[], [], [], [], [], []] <| cN) (fun _ => ?_)
  refine oY ?_
  refine sS Tryz.f34 1 [1, 2] [] (fun _ => [(.bool false)]) (fun _ => []) (cR [[]] <| cN) (fun _ => ?_)
  refine ok_ret ?_
  refine mt_then_r ?_
  exact mR (v := (.bool false)) (fun _ hS => ⟨congrArg (fun x => Ending.returned (.bool x)) (vp_1 (by have := hnl; have := yT hb1; have := hlen; omega)), hS.bel⟩)
 ·
  refine sS Tryz.f34 10 [1, 2, 14] [] (fun _ => [(.pointer (some ⟨nb ρ1 0, 43, none⟩)), (.slice p.pa (nI p.ps).length p.pc), (vn ((nI p.ps).length)), (.bool false), (.bool false), (pt (nb ρ1 0)), (.agg (kY p.k)), (.bool (sndB p.k)), (.bool (!(sndB p.k))), (.bool (!(sndB p.k)))]) (fun _ => []) (cR [[], [0], []] <| cA (fun _ => (.bool false)) (fun _ => congrArg Value.bool hb1) <| cR [[], [], [0]] <| cC (fun _ w => ksound_any p.k hp.k w) <| cR [[], []] <| cN) (fun _ => ?_)
  refine oC (!(sndB p.k)) (fun hb2 => ?_) (fun hb2 => ?_)
  ·
   rw [hb2]
   refine sS Tryz.f34 1 [1, 2] [] (fun _ => [(.bool false)]) (fun _ => []) (cR [[]] <| cN) (fun _ => ?_)
   refine ok_ret ?_
   refine mt_then_r ?_
   exact mR (v := (.bool false)) (fun _ hS => ⟨congrArg (fun x => Ending.returned (.bool x)) (vp_2 (not_t hb2)), hS.bel⟩)
  ·
   rw [hb2]
   refine ok_skip ?_
   refine mt_then ?_
   refine sS Tryz.f34 8 [1, 2, 3] [] (fun _ => [(pt (nb ρ1 0)), (.pointer (some ⟨nb ρ1 0, 40, none⟩)), (vi p.k.d), (.pointer (some ⟨nb ρ1 0, 43, none⟩)), (.slice p.pa (nI p.ps).length p.pc), (vn ((nI p.ps).length)), (vi (p.k.d + (((nI p.ps).length : Nat) : Int))), (vi (p.k.d + (((nI p.ps).length : Nat) : Int)))]) (fun _ => []) (cR [[], [], [0], [], [0], []] <| cA (v := fun ρ => (vi (IntKind.i64.wrap (p.k.d + (((nI p.ps).length : Nat) : Int))))) (fun _ => (vi (p.k.d + (((nI p.ps).length : Nat) : Int)))) (fun _ => congrArg (Value.int .i64) (i64N (by have := snd_get (not_f hb2); have := hnl; have := yF hb1; have := hlen; omega))) <| cR [[]] <| cN) (fun _ => ?_)
   refine ok_seq ?_
   refine sS Tryz.f34 2 [1, 2, 3, 23] [] (fun _ => [(.pointer (some ⟨nb ρ1 0, 44, none⟩)), (.bool p.wd)]) (fun _ => []) (cR [[], [0]] <| cN) (fun _ => ?_)
   refine oC (p.wd) (fun hb3 => ?_) (fun hb3 => ?_)
   ·
    rw [hb3]
    refine rS Tryz.f34 3 [1, 2, 3] [] (fun _ => [(vi (p.k.d + (((nI p.ps).length : Nat) : Int))), (vi (p.k.d + (((nI p.ps).length : Nat) : Int) + 1)), (vi (p.k.d + (((nI p.ps).length : Nat) : Int) + 1))]) (fun _ => []) (cR [[]] <| cA (v := fun ρ => (vi (IntKind.i64.wrap ((p.k.d + (((nI p.ps).length : Nat) : Int)) + 1)))) (fun _ => (vi (p.k.d + (((nI p.ps).length : Nat) : Int) + 1))) (fun _ => congrArg (Value.int .i64) (i64N (by have := snd_get (not_f hb2); have := hnl; have := yF hb1; have := hlen; omega))) <| cR [[]] <| cN) (fun _ => ?_)
    refine mt_then ?_
    refine ok_seq ?_
    refine sS Tryz.f34 2 [1, 2, 27] [] (fun _ => [(vi (p.k.d + (((nI p.ps).length : Nat) : Int) + 1)), (.bool (decide (8 < (p.k.d + (((nI p.ps).length : Nat) : Int) + 1))))]) (fun _ => []) (cR [[], []] <| cN) (fun _ => ?_)
    refine oC (decide (8 < (p.k.d + (((nI p.ps).length : Nat) : Int) + 1))) (fun hb4 => ?_) (fun hb4 => ?_)
    ·
     rw [hb4]
     refine sS Tryz.f34 1 [1, 2] [] (fun _ => [(.bool false)]) (fun _ => []) (cR [[]] <| cN) (fun _ => ?_)
     refine ok_ret ?_
     refine mt_then_r ?_
     exact mR (v := (.bool false)) (fun _ hS => ⟨congrArg (fun x => Ending.returned (.bool x)) (vp_3 (by have := hnl; have := w1_t hb3; have := yF hb1; have := yT hb4; have := hlen; omega)), hS.bel⟩)
    ·
     rw [hb4]
     refine ok_skip ?_
     refine mt_then ?_
     refine sS Tryz.f34 4 [1, 2, 4] [] (fun _ => [(.pointer (some ⟨nb ρ1 0, 43, none⟩)), (.slice p.pa (nI p.ps).length p.pc), (.bool ((p.ps).any hdB)), (.bool ((p.ps).any hdB))]) (fun _ => []) (cR [[], [0]] <| cX (qC (fun _ _ w hG => cofunc_any p.pa p.pc p.ps w hG.facts0.now.1)) <| cR [[]] <| cN) (fun _ => ?_)
     refine dRs [(1, (pt (nb ρ1 0))), (2, (.bool false)), (4, (.bool ((p.ps).any hdB)))] [(nb ρ1 0, (cL (KpA.row p) 51))] ?_
     rcases Bool.eq_false_or_eq_true ((p.ps).any hdB) with hb5 | hb5
     ·
      rw [hb5]
      refine sS Tryz.f34 10 [2] [0] (fun _ => [(.bool true), (.bool false), (.bool false), (pt (nb ρ1 0)), (pt (nb ρ1 0)), (U p.k.s), (U 0), (.bool (!decide (p.k.s = 0))), (.bool (!decide (p.k.s = 0))), (.bool (!decide (p.k.s = 0)))]) (fun _ => []) (cR [[], [], [], [], [], [0], []] <| cB (a := fun ρ => (U p.k.s)) (b := fun ρ => (U 0)) (v := fun ρ => (.bool (!decide (p.k.s = 0)))) .neq 39 (fun _ _ => neqU p.k.s 0 hp.k.s (by decide +kernel) _) <| cR [[], []] <| cN) (fun _ => ?_)
      refine ok_ret ?_
      exact mR (v := (.bool (!decide (p.k.s = 0)))) (fun _ hS => ⟨congrArg (fun x => Ending.returned (.bool x)) ((show (!decide (p.k.s = 0)) = KpA.vp p from (Decidable.em (p.k.s = 0)).elim (fun h0 => by rw [decide_eq_true h0]; exact vp_4 hb5 h0) (fun h0 => by rw [decide_eq_false h0]; exact vp_5 (by have := hnl; have := yF hb1; have := yF hb4; have := hlen; omega) (not_f hb2) (by have := hnl; have := w1_t hb3; have := yF hb1; have := yF hb4; have := hlen; omega) (Or.inr h0)))), hS.bel⟩)
     ·
      rw [hb5]
      refine sS Tryz.f34 10 [2] [0] (fun _ => [(.bool false), (.bool true), (.bool true), undef, undef, undef, undef, undef, (.bool true), (.bool true)]) (fun _ => []) (cR [[], [], [], [], [], [], [], [], [], []] <| cN) (fun _ => ?_)
      refine ok_ret ?_
      exact mR (v := (.bool true)) (fun _ hS => ⟨congrArg (fun x => Ending.returned (.bool x)) (vp_5 (by have := hnl; have := yF hb1; have := yF hb4; have := hlen; omega) (not_f hb2) (by have := hnl; have := w1_t hb3; have := yF hb1; have := yF hb4; have := hlen; omega) (Or.inl hb5)), hS.bel⟩)
   ·
    rw [hb3]
    refine ok_skip ?_
    refine mt_then ?_
    refine ok_seq ?_
    refine sS Tryz.f34 2 [1, 2, 27] [] (fun _ => [(vi (p.k.d + (((nI p.ps).length : Nat) : Int))), (.bool (decide (8 < (p.k.d + (((nI p.ps).length : Nat) : Int)))))]) (fun _ => []) (cR [[], []] <| cN) (fun _ => ?_)
    refine oC (decide (8 < (p.k.d + (((nI p.ps).length : Nat) : Int)))) (fun hb6 => ?_) (fun hb6 => ?_)
    ·
     rw [hb6]
     refine sS Tryz.f34 1 [1, 2] [] (fun _ => [(.bool false)]) (fun _ => []) (cR [[]] <| cN) (fun _ => ?_)
     refine ok_ret ?_
     refine mt_then_r ?_
     exact mR (v := (.bool false)) (fun _ hS => ⟨congrArg (fun x => Ending.returned (.bool x)) (vp_3 (by have := hnl; have := w1_f hb3; have := yF hb1; have := yT hb6; have := hlen; omega)), hS.bel⟩)
    ·
     rw [hb6]
     refine ok_skip ?_
     refine mt_then ?_
     refine sS Tryz.f34 4 [1, 2, 4] [] (fun _ => [(.pointer (some ⟨nb ρ1 0, 43, none⟩)), (.slice p.pa (nI p.ps).length p.pc), (.bool ((p.ps).any hdB)), (.bool ((p.ps).any hdB))]) (fun _ => []) (cR [[], [0]] <| cX (qC (fun _ _ w hG => cofunc_any p.pa p.pc p.ps w hG.facts0.now.1)) <| cR [[]] <| cN) (fun _ => ?_)
     rcases Bool.eq_false_or_eq_true ((p.ps).any hdB) with hb7 | hb7
     ·
      rw [hb7]
      refine sS Tryz.f34 10 [2] [0] (fun _ => [(.bool true), (.bool false), (.bool false), (pt (nb ρ1 0)), (pt (nb ρ1 0)), (U p.k.s), (U 0), (.bool (!decide (p.k.s = 0))), (.bool (!decide (p.k.s = 0))), (.bool (!decide (p.k.s = 0)))]) (fun _ => []) (cR [[], [], [], [], [], [0], []] <| cB (a := fun ρ => (U p.k.s)) (b := fun ρ => (U 0)) (v := fun ρ => (.bool (!decide (p.k.s = 0)))) .neq 39 (fun _ _ => neqU p.k.s 0 hp.k.s (by decide +kernel) _) <| cR [[], []] <| cN) (fun _ => ?_)
      refine ok_ret ?_
      exact mR (v := (.bool (!decide (p.k.s = 0)))) (fun _ hS => ⟨congrArg (fun x => Ending.returned (.bool x)) ((show (!decide (p.k.s = 0)) = KpA.vp p from (Decidable.em (p.k.s = 0)).elim (fun h0 => by rw [decide_eq_true h0]; exact vp_4 hb7 h0) (fun h0 => by rw [decide_eq_false h0]; exact vp_5 (by have := hnl; have := yF hb1; have := yF hb6; have := hlen; omega) (not_f hb2) (by have := hnl; have := w1_f hb3; have := yF hb1; have := yF hb6; have := hlen; omega) (Or.inr h0)))), hS.bel⟩)
     ·
      rw [hb7]
      refine sS Tryz.f34 10 [2] [0] (fun _ => [(.bool false), (.bool true), (.bool true), undef, undef, undef, undef, undef, (.bool true), (.bool true)]) (fun _ => []) (cR [[], [], [], [], [], [], [], [], [], []] <| cN) (fun _ => ?_)
      refine ok_ret ?_
      exact mR (v := (.bool true)) (fun _ hS => ⟨congrArg (fun x => Ending.returned (.bool x)) (vp_5 (by have := hnl; have := yF hb1; have := yF hb6; have := hlen; omega) (not_f hb2) (by have := hnl; have := w1_f hb3; have := yF hb1; have := yF hb6; have := hlen; omega) (Or.inl hb7)), hS.bel⟩)
theorem dvalid_any (a : Option Addr) (c : Nat) (ts : List TmA) (w0 : World) (hf0 : TmF w0 a c ts) : Calls Tryz.prog 21 #[(.slice a (ts).length c)] w0 (fun ε w' => ε = .returned (.bool (vlB ts)) ∧ Below w0.heap.size w0 w') := by
 refine Calls.of_ok (n := 50) (F := (fun w => TmF w a c ts ∧ True)) Tryz.func21 rfl rfl rfl (by simp) (hf0.pers0.and persT) ?_
 have hlen : ts.length ≤ 1000000 := hf0.max
 have ho : TsOk ts := hf0.oks
 refine sS Tryz.f21 1 [0, 2] [] (fun _ => [(.bool false)]) (fun _ => []) (cR [[]] <| cN) (fun _ => ?_)
 refine ok_seq ?_
 rcases Bool.eq_false_or_eq_true (decide ((((ts).length : Nat) : Int) < 1)) with hb1 | hb1
 ·
  refine sS Tryz.f21 13 [0, 2, 21] [] (fun _ => [(.slice a (ts).length c), (vn (ts).length), (.bool true), (.bool true), undef, undef, undef, (.bool true), (.bool true), undef, undef, undef, (.bool true)]) (fun _ => []) (cR [[], []] <| cA (fun _ => (.bool true)) (fun _ => congrArg Value.bool hb1) <| cR [[], [], [], [], [], [], [], [], [], []] <| cN) (fun _ => ?_)
  refine oY ?_
  refine sS Tryz.f21 1 [0, 2] [] (fun _ => [(.bool false)]) (fun _ => []) (cR [[]] <| cN) (fun _ => ?_)
  refine ok_ret ?_
  refine mt_then_r ?_
  exact mR (v := (.bool false)) (fun _ hS => ⟨congrArg (fun x => Ending.returned (.bool x)) (vl_a (by have := yT hb1; have := hlen; omega)), hS.bel⟩)
 ·
  rcases Bool.eq_false_or_eq_true (decide (8 < (((ts).length : Nat) : Int))) with hb2 | hb2
  ·
   refine sS Tryz.f21 13 [0, 2, 21] [] (fun _ => [(.slice a (ts).length c), (vn (ts).length), (.bool false), (.bool false), (.slice a (ts).length c), (vn (ts).length), (.bool true), (.bool true), (.bool true), undef, undef, undef, (.bool true)]) (fun _ => []) (cR [[], []] <| cA (fun _ => (.bool false)) (fun _ => congrArg Value.bool hb1) <| cR [[], [], []] <| cA (fun _ => (.bool true)) (fun _ => congrArg Value.bool hb2) <| cR [[], [], [], [], [], []] <| cN) (fun _ => ?_)
   refine oY ?_
   refine sS Tryz.f21 1 [0, 2] [] (fun _ => [(.bool false)]) (fun _ => []) (cR [[]] <| cN) (fun _ => ?_)
   refine ok_ret ?_
   refine mt_then_r ?_
   exact mR (v := (.bool false)) (fun _ hS => ⟨congrArg (fun x => Ending.returned (.bool x)) (vl_a (by have := yF hb1; have := yT hb2; have := hlen; omega)), hS.bel⟩)
  ·
   refine sS Tryz.f21 13 [0, 2, 21] [] (fun _ => [(.slice a (ts).length c), (vn (ts).length), (.bool false), (.bool false), (.slice a (ts).length c), (vn (ts).length), (.bool false), (.bool false), (.bool false), (.slice a (ts).length c), (.bool (whB 1 ts)), (.bool (!(whB 1 ts))), (.bool (!(whB 1 ts)))]) (fun _ => []) (cR [[], []] <| cA (fun _ => (.bool false)) (fun _ => congrArg Value.bool hb1) <| cR [[], [], []] <| cA (fun _ => (.bool false)) (fun _ => congrArg Value.bool hb2) <| cR [[], [], []] <| cX (qC (fun _ _ w hG => dwhole_any a c ts w hG.facts0.now.1)) <| cR [[], []] <| cN) (fun _ => ?_)
   refine oC (!(whB 1 ts)) (fun hb3 => ?_) (fun hb3 => ?_)
   ·
    rw [hb3]
    refine sS Tryz.f21 1 [0, 2] [] (fun _ => [(.bool false)]) (fun _ => []) (cR [[]] <| cN) (fun _ => ?_)
    refine ok_ret ?_
    refine mt_then_r ?_
    exact mR (v := (.bool false)) (fun _ hS => ⟨congrArg (fun x => Ending.returned (.bool x)) (vl_b (not_t hb3)), hS.bel⟩)
   ·
    rw [hb3]
    refine ok_skip ?_
    refine mt_then ?_
    refine ok_seq ?_
    refine sS Tryz.f21 3 [0, 2, 22, 23, 24] [] (fun _ => [(.slice a (ts).length c), (vn (ts).length), (vi 0)]) (fun _ => []) (cR [[], [], []] <| cN) (fun _ => ?_)
    refine ok_block ?_
    refine oL (σ := Nat) (fun i => [(0, (.slice a (ts).length c)), (22, (.slice a (ts).length c)), (23, (vn (ts).length)), (24, (vn i))]) (fun _ => []) (fun i => ts.length - i)
      (fun i => (i ≤ ts.length) ∧ ((ts.drop i).all (TmA.fd) = ts.all (TmA.fd))) 0 (⟨Nat.zero_le _, rfl⟩) [] ?_
    rintro i ⟨hi, hA⟩
    change Ok Tryz.prog _ _ 50 [(0, (.slice a (ts).length c)), (22, (.slice a (ts).length c)), (23, (vn (ts).length)), (24, (vn i))] _ [] (fun w => TmF w a c ts ∧ True)
    refine sS Tryz.f21 1 [0, 22, 23, 24, 25] [] (fun _ => [(.bool (decide (((i : Nat) : Int) < (((ts).length : Nat) : Int))))]) (fun _ => []) (cR [[]] <| cN) (fun _ => ?_)
    refine ok_seq ?_
    refine oC (decide (((i : Nat) : Int) < (((ts).length : Nat) : Int))) (fun hb4 => ?_) (fun hb4 => ?_)
    ·
     rw [hb4]
     refine ok_skip ?_
     refine mt_then ?_
     refine ok_seq ?_
     refine ok_block ?_
     refine sS Tryz.f21 4 [0, 4, 22, 23, 24] [] (fun ρ => [(.pointer (adr a (i * 36))), (.agg (TmA.row (gT ts i))), (pt (nb ρ 2)), undef]) (fun ρ => [(2, (nw ρ 2 (cL (tmV 0 0 0 0 (.slice none 0 0)) 46))), (3, (pwt 16 (nb ρ 2) (cL (TmA.row (gT ts i)) 46)))]) (cX (qF (fun _ _ _ hG => TmF.idx (k := .i64) Tryz.underlying24 Tryz.sizeOf46 hG.facts0.now.1 rfl ((show ((i : Nat) : Int) = ((i : Nat) : Int) ∧ i < (ts).length from ⟨rfl, (by have := yF hb1; have := yF hb2; have := yT hb4; have := hlen; have := hi; omega)⟩)).1 ((show ((i : Nat) : Int) = ((i : Nat) : Int) ∧ i < (ts).length from ⟨rfl, (by have := yF hb1; have := yF hb2; have := yT hb4; have := hlen; have := hi; omega)⟩)).2)) <| cX (qF (fun _ _ _ hG => TmF.ldA (i := i) Tryz.isAgg46 Tryz.sizeOf46 hG.facts0.now.1 ((show ((i : Nat) : Int) = ((i : Nat) : Int) ∧ i < (ts).length from ⟨rfl, (by have := yF hb1; have := yF hb2; have := yT hb4; have := hlen; have := hi; omega)⟩)).2)) <| cR [[], [16]] <| cN) (fun _ => ?_)
     refine sS Tryz.f21 3 [0, 22, 23, 24, 30] [0] (fun _ => [(.agg (TmA.row (gT ts i))), (.bool (fdN ((gT ts i).kd) ((gT ts i).m) ((gT ts i).nu) ((gT ts i).h) ((gT ts i).ks).length)), (.bool (!(fdN ((gT ts i).kd) ((gT ts i).m) ((gT ts i).nu) ((gT ts i).h) ((gT ts i).ks).length)))]) (fun _ => []) (cR [[0]] <| cC (fun _ w => dfields_any ((gT ts i).kd) ((gT ts i).m) ((gT ts i).nu) ((gT ts i).h) ((gT ts i).ka) ((gT ts i).kc) ((gT ts i).ks) (ho.gT i).h w) <| cR [[]] <| cN) (fun _ => ?_)
     refine oC (!(fdN ((gT ts i).kd) ((gT ts i).m) ((gT ts i).nu) ((gT ts i).h) ((gT ts i).ks).length)) (fun hb5 => ?_) (fun hb5 => ?_)
     ·
      rw [hb5]
      refine sS Tryz.f21 1 [0, 2, 22, 23, 24] [] (fun _ => [(.bool false)]) (fun _ => []) (cR [[]] <| cN) (fun _ => ?_)
      refine ok_ret ?_
      refine mt_block_r ?_
      refine mt_then_r ?_
      refine mt_then_r ?_
      refine mt_block_r ?_
      refine mt_then_r ?_
      exact mR (v := (.bool false)) (fun _ hS => ⟨congrArg (fun x => Ending.returned (.bool x)) (vl_c (all_stop (f := TmA.fd) (l := ts) (by have := yF hb1; have := yF hb2; have := yT hb4; have := hlen; have := hi; omega) (not_t hb5) hA)), hS.bel⟩)
     ·
      rw [hb5]
      refine ok_skip ?_
      refine mt_block_n ?_
      refine mt_then ?_
      refine rS Tryz.f21 2 [0, 22, 23, 24] [] (fun _ => [(vn (i + 1)), (vn (i + 1))]) (fun _ => []) (cA (v := fun ρ => (vi (IntKind.i64.wrap (((i : Nat) : Int) + 1)))) (fun _ => (vn (i + 1))) (fun _ => congrArg (Value.int .i64) (wrap_addN i 1 (by have := yF hb1; have := yF hb2; have := yT hb4; have := hlen; have := hi; omega))) <| cR [[]] <| cN) (fun _ => ?_)
      exact mN (i + 1) (by show ts.length - (i + 1) < ts.length - i; have := yF hb1; have := yF hb2; have := yT hb4; have := hlen; have := hi; omega) (⟨(by have := yF hb1; have := yF hb2; have := yT hb4; have := hlen; have := hi; omega), all_next (f := TmA.fd) (l := ts) (by have := yF hb1; have := yF hb2; have := yT hb4; have := hlen; have := hi; omega) (not_f hb5) hA⟩) []
    ·
     rw [hb4]
     refine ok_exit ?_
     refine mt_then_e ?_
     refine mt_then_e ?_
     refine mt_block_h ?_
     refine mt_then ?_
     refine ok_seq ?_
     refine sS Tryz.f21 3 [32, 33, 34] [] (fun _ => [(.slice a (ts).length c), (vn (ts).length), (vi 0)]) (fun _ => []) (cR [[], [], []] <| cN) (fun _ => ?_)
     refine ok_block ?_
     refine oL (σ := Nat) (fun i2 => [(32, (.slice a (ts).length c)), (33, (vn (ts).length)), (34, (vn i2))]) (fun _ => []) (fun i2 => ts.length - i2)
       (fun i2 => (i2 ≤ ts.length) ∧ ((ts.drop i2).all (TmA.vk) = ts.all (TmA.vk))) 0 (⟨Nat.zero_le _, rfl⟩) [] ?_
     rintro i2 ⟨hi2, hB⟩
     change Ok Tryz.prog _ _ 50 [(32, (.slice a (ts).length c)), (33, (vn (ts).length)), (34, (vn i2))] _ [] (fun w => TmF w a c ts ∧ True)
     refine sS Tryz.f21 1 [32, 33, 34, 35] [] (fun _ => [(.bool (decide (((i2 : Nat) : Int) < (((ts).length : Nat) : Int))))]) (fun _ => []) (cR [[]] <| cN) (fun _ => ?_)
     refine ok_seq ?_
     refine oC (decide (((i2 : Nat) : Int) < (((ts).length : Nat) : Int))) (fun hb6 => ?_) (fun hb6 => ?_)
     ·
      rw [hb6]
      refine ok_skip ?_
      refine mt_then ?_
      refine ok_seq ?_
      refine ok_block ?_
      refine sS Tryz.f21 4 [6, 32, 33, 34] [] (fun ρ => [(.pointer (adr a (i2 * 36))), (.agg (TmA.row (gT ts i2))), (pt (nb ρ 2)), undef]) (fun ρ => [(2, (nw ρ 2 (cL (tmV 0 0 0 0 (.slice none 0 0)) 46))), (3, (pwt 16 (nb ρ 2) (cL (TmA.row (gT ts i2)) 46)))]) (cX (qF (fun _ _ _ hG => TmF.idx (k := .i64) Tryz.underlying24 Tryz.sizeOf46 hG.facts0.now.1 rfl ((show ((i2 : Nat) : Int) = ((i2 : Nat) : Int) ∧ i2 < (ts).length from ⟨rfl, (by have := yF hb1; have := yF hb2; have := yF hb4; have := yT hb6; have := hlen; have := hi; have := hi2; omega)⟩)).1 ((show ((i2 : Nat) : Int) = ((i2 : Nat) : Int) ∧ i2 < (ts).length from ⟨rfl, (by have := yF hb1; have := yF hb2; have := yF hb4; have := yT hb6; have := hlen; have := hi; have := hi2; omega)⟩)).2)) <| cX (qF (fun _ _ _ hG => TmF.ldA (i := i2) Tryz.isAgg46 Tryz.sizeOf46 hG.facts0.now.1 ((show ((i2 : Nat) : Int) = ((i2 : Nat) : Int) ∧ i2 < (ts).length from ⟨rfl, (by have := yF hb1; have := yF hb2; have := yF hb4; have := yT hb6; have := hlen; have := hi; have := hi2; omega)⟩)).2)) <| cR [[], [16]] <| cN) (fun ρ16 => ?_)
      refine sS Tryz.f21 4 [32, 33, 34, 39, 40, 41] [0] (fun _ => [(.pointer (some ⟨nb ρ16 2, 35, none⟩)), (.slice ((gT ts i2).ka) ((gT ts i2).ks).length ((gT ts i2).kc)), (vn (((gT ts i2).ks).length)), (vi 0)]) (fun _ => []) (cR [[], [0], [], []] <| cN) (fun _ => ?_)
      refine ok_block ?_
      refine oL (σ := Nat) (fun k => [(32, (.slice a (ts).length c)), (33, (vn (ts).length)), (34, (vn i2)), (39, (.slice ((gT ts i2).ka) ((gT ts i2).ks).length ((gT ts i2).kc))), (40, (vn (((gT ts i2).ks).length))), (41, (vn k))]) (fun _ => []) (fun k => (gT ts i2).ks.length - k)
        (fun k => (k ≤ (gT ts i2).ks.length) ∧ (((gT ts i2).ks.drop k).all KpA.vp = (gT ts i2).ks.all KpA.vp)) 0 (⟨Nat.zero_le _, rfl⟩) [] ?_
      rintro k ⟨hk, hC⟩
      change Ok Tryz.prog _ _ 50 [(32, (.slice a (ts).length c)), (33, (vn (ts).length)), (34, (vn i2)), (39, (.slice ((gT ts i2).ka) ((gT ts i2).ks).length ((gT ts i2).kc))), (40, (vn (((gT ts i2).ks).length))), (41, (vn k))] _ [] (fun w => TmF w a c ts ∧ True)
      have hkl : (gT ts i2).ks.length ≤ 1000000 := ho.klen hf0 i2
      refine sS Tryz.f21 1 [32, 33, 34, 39, 40, 41, 42] [] (fun _ => [(.bool (decide (((k : Nat) : Int) < ((((gT ts i2).ks).length : Nat) : Int))))]) (fun _ => []) (cR [[]] <| cN) (fun _ => ?_)
      refine ok_seq ?_
      refine oC (decide (((k : Nat) : Int) < ((((gT ts i2).ks).length : Nat) : Int))) (fun hb7 => ?_) (fun hb7 => ?_)
      ·
       rw [hb7]
       refine ok_skip ?_
       refine mt_then ?_
       refine ok_seq ?_
       refine ok_block ?_
       refine sS Tryz.f21 4 [8, 32, 33, 34, 39, 40, 41] [] (fun ρ => [(.pointer (adr ((gT ts i2).ka) (k * 45))), (.agg (KpA.row (gK ((gT ts i2).ks) k))), (pt (nb ρ 2)), undef]) (fun ρ => [(2, (nw ρ 2 (cL (kpV 0 0 0 0 0 0 (.slice none 0 0) (.bool false)) 51))), (3, (pwt 16 (nb ρ 2) (cL (KpA.row (gK ((gT ts i2).ks) k)) 51)))]) (cX (qF (fun _ _ _ hG => KpF.idx (k := .i64) Tryz.underlying44 Tryz.sizeOf51 ((hG.facts0.now.1).sub _ (gT_mem ((show ((i2 : Nat) : Int) = ((i2 : Nat) : Int) ∧ i2 < (ts).length from ⟨rfl, (by have := yF hb1; have := yF hb2; have := yF hb4; have := yT hb6; have := hlen; have := hi; have := hi2; omega)⟩)).2)) rfl ((show ((k : Nat) : Int) = ((k : Nat) : Int) ∧ k < ((gT ts i2).ks).length from ⟨rfl, (by have := yF hb1; have := yF hb2; have := yF hb4; have := yT hb6; have := yT hb7; have := hlen; have := hi; have := hi2; have := hk; have := hkl; omega)⟩)).1 ((show ((k : Nat) : Int) = ((k : Nat) : Int) ∧ k < ((gT ts i2).ks).length from ⟨rfl, (by have := yF hb1; have := yF hb2; have := yF hb4; have := yT hb6; have := yT hb7; have := hlen; have := hi; have := hi2; have := hk; have := hkl; omega)⟩)).2)) <| cX (qF (fun _ _ _ hG => KpF.ldA (i := k) Tryz.isAgg51 Tryz.sizeOf51 ((hG.facts0.now.1).sub _ (gT_mem ((show ((i2 : Nat) : Int) = ((i2 : Nat) : Int) ∧ i2 < (ts).length from ⟨rfl, (by have := yF hb1; have := yF hb2; have := yF hb4; have := yT hb6; have := hlen; have := hi; have := hi2; omega)⟩)).2)) ((show ((k : Nat) : Int) = ((k : Nat) : Int) ∧ k < ((gT ts i2).ks).length from ⟨rfl, (by have := yF hb1; have := yF hb2; have := yF hb4; have := yT hb6; have := yT hb7; have := hlen; have := hi; have := hi2; have := hk; have := hkl; omega)⟩)).2)) <| cR [[], [16]] <| cN) (fun _ => ?_)
       refine sS Tryz.f21 3 [32, 33, 34, 39, 40, 41, 47] [0] (fun _ => [(.agg (KpA.row (gK ((gT ts i2).ks) k))), (.bool (KpA.vp (gK ((gT ts i2).ks) k))), (.bool (!(KpA.vp (gK ((gT ts i2).ks) k))))]) (fun _ => []) (cR [[0]] <| cX (qC (fun _ _ w hG => dvpath_any (gK ((gT ts i2).ks) k) (ho.gK i2 k) w ((((hG.facts0.now.1).sub _ (gT_mem ((show ((i2 : Nat) : Int) = ((i2 : Nat) : Int) ∧ i2 < (ts).length from ⟨rfl, (by have := yF hb1; have := yF hb2; have := yF hb4; have := yT hb6; have := hlen; have := hi; have := hi2; omega)⟩)).2))).sub _ (gK_mem ((show ((k : Nat) : Int) = ((k : Nat) : Int) ∧ k < ((gT ts i2).ks).length from ⟨rfl, (by have := yF hb1; have := yF hb2; have := yF hb4; have := yT hb6; have := yT hb7; have := hlen; have := hi; have := hi2; have := hk; have := hkl; omega)⟩)).2)))) <| cR [[]] <| cN) (fun _ => ?_)
       refine oC (!(KpA.vp (gK ((gT ts i2).ks) k))) (fun hb8 => ?_) (fun hb8 => ?_)
       ·
        rw [hb8]
        refine sS Tryz.f21 1 [2, 32, 33, 34, 39, 40, 41] [] (fun _ => [(.bool false)]) (fun _ => []) (cR [[]] <| cN) (fun _ => ?_)
        refine ok_ret ?_
        refine mt_block_r ?_
        refine mt_then_r ?_
        refine mt_then_r ?_
        refine mt_block_r ?_
        refine mt_block_r ?_
        refine mt_then_r ?_
        refine mt_then_r ?_
        refine mt_block_r ?_
        refine mt_then_r ?_
        exact mR (v := (.bool false)) (fun _ hS => ⟨congrArg (fun x => Ending.returned (.bool x)) (vl_d (all_stop (f := TmA.vk) (l := ts) (by have := yF hb1; have := yF hb2; have := yF hb4; have := yT hb6; have := yT hb7; have := hlen; have := hi; have := hi2; have := hk; have := hkl; omega) (all_stop (f := KpA.vp) (l := (gT ts i2).ks) (by have := yF hb1; have := yF hb2; have := yF hb4; have := yT hb6; have := yT hb7; have := hlen; have := hi; have := hi2; have := hk; have := hkl; omega) (not_t hb8) hC) hB)), hS.bel⟩)
       ·
        rw [hb8]
        refine ok_skip ?_
        refine mt_block_n ?_
        refine mt_then ?_
        refine rS Tryz.f21 2 [32, 33, 34, 39, 40, 41] [] (fun _ => [(vn (k + 1)), (vn (k + 1))]) (fun _ => []) (cA (v := fun ρ => (vi (IntKind.i64.wrap (((k : Nat) : Int) + 1)))) (fun _ => (vn (k + 1))) (fun _ => congrArg (Value.int .i64) (wrap_addN k 1 (by have := yF hb1; have := yF hb2; have := yF hb4; have := yT hb6; have := yT hb7; have := hlen; have := hi; have := hi2; have := hk; have := hkl; omega))) <| cR [[]] <| cN) (fun _ => ?_)
        exact mN (k + 1) (by show (gT ts i2).ks.length - (k + 1) < (gT ts i2).ks.length - k; have := yF hb1; have := yF hb2; have := yF hb4; have := yT hb6; have := yT hb7; have := hlen; have := hi; have := hi2; have := hk; have := hkl; omega) (⟨(by have := yF hb1; have := yF hb2; have := yF hb4; have := yT hb6; have := yT hb7; have := hlen; have := hi; have := hi2; have := hk; have := hkl; omega), all_next (f := KpA.vp) (l := (gT ts i2).ks) (by have := yF hb1; have := yF hb2; have := yF hb4; have := yT hb6; have := yT hb7; have := hlen; have := hi; have := hi2; have := hk; have := hkl; omega) (not_f hb8) hC⟩) []
      ·
       rw [hb7]
       refine ok_exit ?_
       refine mt_then_e ?_
       refine mt_then_e ?_
       refine mt_block_h ?_
       refine mt_block_n ?_
       refine mt_then ?_
       refine rS Tryz.f21 2 [32, 33, 34] [] (fun _ => [(vn (i2 + 1)), (vn (i2 + 1))]) (fun _ => []) (cA (v := fun ρ => (vi (IntKind.i64.wrap (((i2 : Nat) : Int) + 1)))) (fun _ => (vn (i2 + 1))) (fun _ => congrArg (Value.int .i64) (wrap_addN i2 1 (by have := yF hb1; have := yF hb2; have := yF hb4; have := yT hb6; have := yF hb7; have := hlen; have := hi; have := hi2; have := hk; have := hkl; omega))) <| cR [[]] <| cN) (fun _ => ?_)
       exact mN (i2 + 1) (by show ts.length - (i2 + 1) < ts.length - i2; have := yF hb1; have := yF hb2; have := yF hb4; have := yT hb6; have := yF hb7; have := hlen; have := hi; have := hi2; have := hk; have := hkl; omega) (⟨(by have := yF hb1; have := yF hb2; have := yF hb4; have := yT hb6; have := yF hb7; have := hlen; have := hi; have := hi2; have := hk; have := hkl; omega), all_next (f := TmA.vk) (l := ts) (by have := yF hb1; have := yF hb2; have := yF hb4; have := yT hb6; have := yF hb7; have := hlen; have := hi; have := hi2; have := hk; have := hkl; omega) (all_end (f := KpA.vp) (l := (gT ts i2).ks) (by have := yF hb1; have := yF hb2; have := yF hb4; have := yT hb6; have := yF hb7; have := hlen; have := hi; have := hi2; have := hk; have := hkl; omega) hC) hB⟩) []
     ·
      rw [hb6]
      refine ok_exit ?_
      refine mt_then_e ?_
      refine mt_then_e ?_
      refine mt_block_h ?_
      refine mt_then ?_
      refine sS Tryz.f21 1 [2] [] (fun _ => [(.bool true)]) (fun _ => []) (cR [[]] <| cN) (fun _ => ?_)
      refine ok_ret ?_
      exact mR (v := (.bool true)) (fun _ hS => ⟨congrArg (fun x => Ending.returned (.bool x)) (vl_e (by have := yF hb1; have := yF hb2; have := yF hb4; have := yF hb6; have := hlen; have := hi; have := hi2; omega) (not_f hb3) (all_end (f := TmA.fd) (l := ts) (by have := yF hb1; have := yF hb2; have := yF hb4; have := yF hb6; have := hlen; have := hi; have := hi2; omega) hA) (all_end (f := TmA.vk) (l := ts) (by have := yF hb1; have := yF hb2; have := yF hb4; have := yF hb6; have := hlen; have := hi; have := hi2; omega) hB)), hS.bel⟩)
theorem dranged_any (a : Option Addr) (c : Nat) (ts : List TmA) (w0 : World) (hf0 : TmF w0 a c ts) : Calls Tryz.prog 14 #[(.slice a (ts).length c)] w0 (fun ε w' => ε = .returned (.bool (rgB ts)) ∧ Below w0.heap.size w0 w') := by
 refine Calls.of_ok (n := 24) (F := (fun w => TmF w a c ts ∧ True)) Tryz.func14 rfl rfl rfl (by simp) (hf0.pers0.and persT) ?_
 have hlen : ts.length ≤ 1000000 := hf0.max
 have ho : TsOk ts := hf0.oks
 refine sS Tryz.f14 1 [0, 2] [] (fun _ => [(.bool false)]) (fun _ => []) (cR [[]] <| cN) (fun _ => ?_)
 refine ok_seq ?_
 refine sS Tryz.f14 3 [2, 7, 8, 9] [] (fun _ => [(.slice a (ts).length c), (vn (ts).length), (vi 0)]) (fun _ => []) (cR [[], [], []] <| cN) (fun _ => ?_)
 refine ok_block ?_
 refine oL (σ := Nat) (fun i2 => [(7, (.slice a (ts).length c)), (8, (vn (ts).length)), (9, (vn i2))]) (fun _ => []) (fun i2 => ts.length - i2)
   (fun i2 => (i2 ≤ ts.length) ∧ ((ts.drop i2).any (TmA.rg) = ts.any (TmA.rg))) 0 (⟨Nat.zero_le _, rfl⟩) [] ?_
 rintro i2 ⟨hi2, hB⟩
 change Ok Tryz.prog _ _ 24 [(7, (.slice a (ts).length c)), (8, (vn (ts).length)), (9, (vn i2))] _ [] (fun w => TmF w a c ts ∧ True)
 refine sS Tryz.f14 1 [7, 8, 9, 10] [] (fun _ => [(.bool (decide (((i2 : Nat) : Int) < (((ts).length : Nat) : Int))))]) (fun _ => []) (cR [[]] <| cN) (fun _ => ?_)
 refine ok_seq ?_
 refine oC (decide (((i2 : Nat) : Int) < (((ts).length : Nat) : Int))) (fun hb1 => ?_) (fun hb1 => ?_)
 ·
  rw [hb1]
  refine ok_skip ?_
  refine mt_then ?_
  refine ok_seq ?_
  refine ok_block ?_
  refine sS Tryz.f14 4 [4, 7, 8, 9] [] (fun ρ => [(.pointer (adr a (i2 * 36))), (.agg (TmA.row (gT ts i2))), (pt (nb ρ 2)), undef]) (fun ρ => [(2, (nw ρ 2 (cL (tmV 0 0 0 0 (.slice none 0 0)) 46))), (3, (pwt 16 (nb ρ 2) (cL (TmA.row (gT ts i2)) 46)))]) (cX (qF (fun _ _ _ hG => TmF.idx (k := .i64) Tryz.underlying24 Tryz.sizeOf46 hG.facts0.now.1 rfl ((show ((i2 : Nat) : Int) = ((i2 : Nat) : Int) ∧ i2 < (ts).length from ⟨rfl, (by have := yT hb1; have := hlen; have := hi2; omega)⟩)).1 ((show ((i2 : Nat) : Int) = ((i2 : Nat) : Int) ∧ i2 < (ts).length from ⟨rfl, (by have := yT hb1; have := hlen; have := hi2; omega)⟩)).2)) <| cX (qF (fun _ _ _ hG => TmF.ldA (i := i2) Tryz.isAgg46 Tryz.sizeOf46 hG.facts0.now.1 ((show ((i2 : Nat) : Int) = ((i2 : Nat) : Int) ∧ i2 < (ts).length from ⟨rfl, (by have := yT hb1; have := hlen; have := hi2; omega)⟩)).2)) <| cR [[], [16]] <| cN) (fun ρ4 => ?_)
  refine sS Tryz.f14 4 [7, 8, 9, 14, 15, 16] [0] (fun _ => [(.pointer (some ⟨nb ρ4 2, 35, none⟩)), (.slice ((gT ts i2).ka) ((gT ts i2).ks).length ((gT ts i2).kc)), (vn (((gT ts i2).ks).length)), (vi 0)]) (fun _ => []) (cR [[], [0], [], []] <| cN) (fun _ => ?_)
  refine ok_block ?_
  refine oL (σ := Nat) (fun k => [(7, (.slice a (ts).length c)), (8, (vn (ts).length)), (9, (vn i2)), (14, (.slice ((gT ts i2).ka) ((gT ts i2).ks).length ((gT ts i2).kc))), (15, (vn (((gT ts i2).ks).length))), (16, (vn k))]) (fun _ => []) (fun k => (gT ts i2).ks.length - k)
    (fun k => (k ≤ (gT ts i2).ks.length) ∧ (((gT ts i2).ks.drop k).any KpA.wd = (gT ts i2).ks.any KpA.wd)) 0 (⟨Nat.zero_le _, rfl⟩) [] ?_
  rintro k ⟨hk, hC⟩
  change Ok Tryz.prog _ _ 24 [(7, (.slice a (ts).length c)), (8, (vn (ts).length)), (9, (vn i2)), (14, (.slice ((gT ts i2).ka) ((gT ts i2).ks).length ((gT ts i2).kc))), (15, (vn (((gT ts i2).ks).length))), (16, (vn k))] _ [] (fun w => TmF w a c ts ∧ True)
  have hkl : (gT ts i2).ks.length ≤ 1000000 := ho.klen hf0 i2
  refine sS Tryz.f14 1 [7, 8, 9, 14, 15, 16, 17] [] (fun _ => [(.bool (decide (((k : Nat) : Int) < ((((gT ts i2).ks).length : Nat) : Int))))]) (fun _ => []) (cR [[]] <| cN) (fun _ => ?_)
  refine ok_seq ?_
  refine oC (decide (((k : Nat) : Int) < ((((gT ts i2).ks).length : Nat) : Int))) (fun hb2 => ?_) (fun hb2 => ?_)
  ·
   rw [hb2]
   refine ok_skip ?_
   refine mt_then ?_
   refine ok_seq ?_
   refine ok_block ?_
   refine sS Tryz.f14 4 [6, 7, 8, 9, 14, 15, 16] [] (fun ρ => [(.pointer (adr ((gT ts i2).ka) (k * 45))), (.agg (KpA.row (gK ((gT ts i2).ks) k))), (pt (nb ρ 2)), undef]) (fun ρ => [(2, (nw ρ 2 (cL (kpV 0 0 0 0 0 0 (.slice none 0 0) (.bool false)) 51))), (3, (pwt 16 (nb ρ 2) (cL (KpA.row (gK ((gT ts i2).ks) k)) 51)))]) (cX (qF (fun _ _ _ hG => KpF.idx (k := .i64) Tryz.underlying44 Tryz.sizeOf51 ((hG.facts0.now.1).sub _ (gT_mem ((show ((i2 : Nat) : Int) = ((i2 : Nat) : Int) ∧ i2 < (ts).length from ⟨rfl, (by have := yT hb1; have := hlen; have := hi2; omega)⟩)).2)) rfl ((show ((k : Nat) : Int) = ((k : Nat) : Int) ∧ k < ((gT ts i2).ks).length from ⟨rfl, (by have := yT hb1; have := yT hb2; have := hlen; have := hi2; have := hk; have := hkl; omega)⟩)).1 ((show ((k : Nat) : Int) = ((k : Nat) : Int) ∧ k < ((gT ts i2).ks).length from ⟨rfl, (by have := yT hb1; have := yT hb2; have := hlen; have := hi2; have := hk; have := hkl; omega)⟩)).2)) <| cX (qF (fun _ _ _ hG => KpF.ldA (i := k) Tryz.isAgg51 Tryz.sizeOf51 ((hG.facts0.now.1).sub _ (gT_mem ((show ((i2 : Nat) : Int) = ((i2 : Nat) : Int) ∧ i2 < (ts).length from ⟨rfl, (by have := yT hb1; have := hlen; have := hi2; omega)⟩)).2)) ((show ((k : Nat) : Int) = ((k : Nat) : Int) ∧ k < ((gT ts i2).ks).length from ⟨rfl, (by have := yT hb1; have := yT hb2; have := hlen; have := hi2; have := hk; have := hkl; omega)⟩)).2)) <| cR [[], [16]] <| cN) (fun ρ7 => ?_)
   refine sS Tryz.f14 2 [7, 8, 9, 14, 15, 16, 21] [0] (fun _ => [(.pointer (some ⟨nb ρ7 2, 44, none⟩)), (.bool ((gK ((gT ts i2).ks) k).wd))]) (fun _ => []) (cR [[], [0]] <| cN) (fun _ => ?_)
   refine oC ((gK ((gT ts i2).ks) k).wd) (fun hb3 => ?_) (fun hb3 => ?_)
   ·
    rw [hb3]
    refine sS Tryz.f14 1 [2, 7, 8, 9, 14, 15, 16] [] (fun _ => [(.bool true)]) (fun _ => []) (cR [[]] <| cN) (fun _ => ?_)
    refine ok_ret ?_
    refine mt_block_r ?_
    refine mt_then_r ?_
    refine mt_then_r ?_
    refine mt_block_r ?_
    refine mt_block_r ?_
    refine mt_then_r ?_
    refine mt_then_r ?_
    refine mt_block_r ?_
    refine mt_then_r ?_
    exact mR (v := (.bool true)) (fun _ hS => ⟨congrArg (fun x => Ending.returned (.bool x)) ((any_stop (f := TmA.rg) (l := ts) (by have := yT hb1; have := yT hb2; have := hlen; have := hi2; have := hk; have := hkl; omega) (any_stop (f := KpA.wd) (l := (gT ts i2).ks) (by have := yT hb1; have := yT hb2; have := hlen; have := hi2; have := hk; have := hkl; omega) hb3 hC) hB).symm), hS.bel⟩)
   ·
    rw [hb3]
    refine ok_skip ?_
    refine mt_block_n ?_
    refine mt_then ?_
    refine rS Tryz.f14 2 [7, 8, 9, 14, 15, 16] [] (fun _ => [(vn (k + 1)), (vn (k + 1))]) (fun _ => []) (cA (v := fun ρ => (vi (IntKind.i64.wrap (((k : Nat) : Int) + 1)))) (fun _ => (vn (k + 1))) (fun _ => congrArg (Value.int .i64) (wrap_addN k 1 (by have := yT hb1; have := yT hb2; have := hlen; have := hi2; have := hk; have := hkl; omega))) <| cR [[]] <| cN) (fun _ => ?_)
    exact mN (k + 1) (by show (gT ts i2).ks.length - (k + 1) < (gT ts i2).ks.length - k; have := yT hb1; have := yT hb2; have := hlen; have := hi2; have := hk; have := hkl; omega) (⟨(by have := yT hb1; have := yT hb2; have := hlen; have := hi2; have := hk; have := hkl; omega), any_next (f := KpA.wd) (l := (gT ts i2).ks) (by have := yT hb1; have := yT hb2; have := hlen; have := hi2; have := hk; have := hkl; omega) hb3 hC⟩) []
  ·
   rw [hb2]
   refine ok_exit ?_
   refine mt_then_e ?_
   refine mt_then_e ?_
   refine mt_block_h ?_
   refine mt_block_n ?_
   refine mt_then ?_
   refine rS Tryz.f14 2 [7, 8, 9] [] (fun _ => [(vn (i2 + 1)), (vn (i2 + 1))]) (fun _ => []) (cA (v := fun ρ => (vi (IntKind.i64.wrap (((i2 : Nat) : Int) + 1)))) (fun _ => (vn (i2 + 1))) (fun _ => congrArg (Value.int .i64) (wrap_addN i2 1 (by have := yT hb1; have := yF hb2; have := hlen; have := hi2; have := hk; have := hkl; omega))) <| cR [[]] <| cN) (fun _ => ?_)
   exact mN (i2 + 1) (by show ts.length - (i2 + 1) < ts.length - i2; have := yT hb1; have := yF hb2; have := hlen; have := hi2; have := hk; have := hkl; omega) (⟨(by have := yT hb1; have := yF hb2; have := hlen; have := hi2; have := hk; have := hkl; omega), any_next (f := TmA.rg) (l := ts) (by have := yT hb1; have := yF hb2; have := hlen; have := hi2; have := hk; have := hkl; omega) (any_end (f := KpA.wd) (l := (gT ts i2).ks) (by have := yT hb1; have := yF hb2; have := hlen; have := hi2; have := hk; have := hkl; omega) hC) hB⟩) []
 ·
  rw [hb1]
  refine ok_exit ?_
  refine mt_then_e ?_
  refine mt_then_e ?_
  refine mt_block_h ?_
  refine mt_then ?_
  refine sS Tryz.f14 1 [2] [] (fun _ => [(.bool false)]) (fun _ => []) (cR [[]] <| cN) (fun _ => ?_)
  refine ok_ret ?_
  exact mR (v := (.bool false)) (fun _ hS => ⟨congrArg (fun x => Ending.returned (.bool x)) ((any_end (f := TmA.rg) (l := ts) (by have := yF hb1; have := hlen; have := hi2; omega) hB).symm), hS.bel⟩)
theorem eql_nil32 (a : Option Addr) (n c : Nat) (w : World) : (binOp .eql 49 (.slice a n c) (.slice none 0 0)).run Tryz.prog w = .ok (.bool a.isNone) w := by cases a <;> kernel_rfl
theorem clone0_any (a : Option Addr) (c : Nat) (ps : List Nat) (hn : a.isNone = true) (w0 : World) (hf0 : Is w0 .u32 a c (nI ps)) : Calls Tryz.prog 22 #[(.slice a (nI ps).length c)] w0 (fun ε w' => ε = .returned (.slice none 0 0) ∧ Below w0.heap.size w0 w') := by
 refine Calls.of_ok (n := 8) (F := (fun w => Is w .u32 a c (nI ps) ∧ True)) Tryz.func22 rfl rfl rfl (by simp) (hf0.pers0.and persT) ?_
 refine sS Tryz.f22 1 [0, 2] [] (fun _ => [(.slice none 0 0)]) (fun _ => []) (cR [[]] <| cN) (fun _ => ?_)
 refine ok_seq ?_
 refine sS Tryz.f22 2 [0, 2, 4] [] (fun _ => [(.slice a (nI ps).length c), (.bool true)]) (fun _ => []) (cR [[]] <| cB (a := fun ρ => (.slice a (nI ps).length c)) (b := fun ρ => (.slice none 0 0)) (v := fun ρ => (.bool true)) .eql 49 (fun _ w => (eql_nil32 a (nI ps).length c w).trans (by rw [show ((a).isNone) = true from hn])) <| cN) (fun _ => ?_)
 refine oY ?_
 refine sS Tryz.f22 1 [0, 2] [] (fun _ => [(.slice none 0 0)]) (fun _ => []) (cR [[]] <| cN) (fun _ => ?_)
 refine ok_ret ?_
 refine mt_then_r ?_
 exact mR (v := (.slice none 0 0)) (fun _ hS => ⟨rfl, hS.bel⟩)
theorem clone1_any (a : Option Addr) (c : Nat) (ps : List Nat) (hn : a.isNone = false) (_h8 : ps.length ≤ 8) (w0 : World) (hf0 : Is w0 .u32 a c (nI ps)) : Calls Tryz.prog 22 #[(.slice a (nI ps).length c)] w0 (fun ε w' => ∃ r : Orc, ε = .returned (vs (r.n.headD 0) (nI ps).length (r.n.tail.headD 0)) ∧ Below w0.heap.size w0 w' ∧ w0.heap.size ≤ r.n.headD 0 ∧ w'.heap[r.n.headD 0]? = some (cL (orcC r) 41) ∧ kI.A (orcC r) ps (r.n.tail.headD 0)) := by
 refine Calls.of_ok (n := 8) (F := (fun w => Is w .u32 a c (nI ps) ∧ True)) Tryz.func22 rfl rfl rfl (by simp) (hf0.pers0.and persT) ?_
 refine sS Tryz.f22 1 [0, 2] [] (fun _ => [(.slice none 0 0)]) (fun _ => []) (cR [[]] <| cN) (fun _ => ?_)
 refine ok_seq ?_
 refine sS Tryz.f22 2 [0, 2, 4] [] (fun _ => [(.slice a (nI ps).length c), (.bool false)]) (fun _ => []) (cR [[]] <| cB (a := fun ρ => (.slice a (nI ps).length c)) (b := fun ρ => (.slice none 0 0)) (v := fun ρ => (.bool false)) .eql 49 (fun _ w => (eql_nil32 a (nI ps).length c w).trans (by rw [show ((a).isNone) = false from hn])) <| cN) (fun _ => ?_)
 refine oN ?_
 refine ok_skip ?_
 refine mt_then ?_
 refine sSf Tryz.f22 4 [2] [] (fun ρ => [(vs (nb ρ 0) 0 0), (.slice a (nI ps).length c), (vs (nb ρ 2) (nI (([] : List Nat) ++ ps)).length (nb2 ρ 2)), (vs (nb ρ 2) (nI (([] : List Nat) ++ ps)).length (nb2 ρ 2))]) (fun ρ => [(0, (nw ρ 0 (cL #[] 41))), (2, (pwt 0 (nb ρ 2) (cL (oc ρ 2) 41)))]) (fun ρ => [(2, fun w => kI.A (oc ρ 2) (([] : List Nat) ++ ps) (nb2 ρ 2))]) (fun _ => (fun w => Is w .u32 a c (nI ps) ∧ True)) (fun ρ => kI.A (oc ρ 2) (([] : List Nat) ++ ps) (nb2 ρ 2)) (fun _ _ hF hf => ⟨hF, hf 2⟩) (cR [[], []] <| cX (qM 0 (fun ρ _ _ hG hg => appI_any (ty := 49) (g := nb ρ 0) (ts := ([] : List Nat)) (us := ps) Tryz.underlying49 (elike_of (sz := 1) (b := 4) (z := (.int .u32 0)) (by kernel_rfl) rfl) RowK.A.empty (src_is Tryz.underlying49 hG.facts0.now.1) (by rw [List.length_nil]; omega) (by decide) hg)) <| cR [[]] <| cN) (fun ρ3 ap3_2 => ?_)
 refine ok_ret ?_
 refine mD [(2, (vs (nb ρ3 2) (nI (([] : List Nat) ++ ps)).length (nb2 ρ3 2)))] [(nb ρ3 2, (cL (oc ρ3 2) 41))] ?_
 exact mR (v := (vs (nb ρ3 2) (nI (([] : List Nat) ++ ps)).length (nb2 ρ3 2))) (fun _ hS => ⟨{ n := [nb ρ3 2, nb2 ρ3 2], o := [.cells (oc ρ3 2) 0 (0, 0)] }, rfl, hS.bel, (hS.newb (.head _)).1, (hS.newb (.head _)).2, ap3_2⟩)
theorem kprint_any (k : Ky) (_hk : k.Ok) (w0 : World) (hf0 : KbK w0) (hf1 : KbI w0) : Calls Tryz.prog 64 #[(.agg (kY k))] w0 (fun ε w' => ε = .returned (.int .u32 ((prN k.p : Nat) : Int)) ∧ Below w0.heap.size w0 w') := by
 refine Calls.of_ok (n := 26) (F := (fun w => KbK w ∧ KbI w ∧ True)) Tryz.func64 rfl rfl rfl (by simp) (hf0.pers0.and (hf1.pers0.and persT)) ?_
 refine sS Tryz.f64 2 [1, 2] [] (fun ρ => [(pt (nb ρ 0)), (.int .u32 0)]) (fun ρ => [(0, (nw ρ 0 (cL (kY k) 48)))]) (cR [[], []] <| cN) (fun ρ1 => ?_)
 refine sS Tryz.f64 5 [2, 3] [0, 1] (fun ρ => [(.pointer (some ⟨nb ρ1 0, 4, none⟩)), (U k.p), (.agg (hB k.p)), (pt (nb ρ 3)), undef]) (fun ρ => [(3, (nw ρ 3 (cL (hB 0) 43))), (4, (pwt 25 (nb ρ 3) (cL (hB k.p) 43)))]) (cR [[], [0]] <| cC (fun _ w => bytes_any k.p w) <| cR [[], [25]] <| cN) (fun ρ2 => ?_)
 refine sS Tryz.f64 1 [2, 3, 4] [] (fun _ => [(.int .u32 0)]) (fun _ => []) (cR [[]] <| cN) (fun _ => ?_)
 refine sS Tryz.f64 4 [2, 4, 5] [0, 1] (fun ρ => [(vs (nb ρ2 3) (hL k.p).length 32), (.agg (hB (shaN (hL k.p)))), (pt (nb ρ 2)), undef]) (fun ρ => [(2, (nw ρ 2 (cL (hB 0) 43))), (3, (pwt 17 (nb ρ 2) (cL (hB (shaN (hL k.p))) 43)))]) (cR [[]] <| cX (qC (fun _ _ w hG => sum_any (some ⟨nb ρ2 3, 0, none⟩) 32 (hL k.p) (by rw [hL_length]; decide) (by rw [hL_length]; decide) w (Bs.of_hd (c := 32) (hG.kn (g := nb ρ2 3) (o := (cL (hB k.p) 43)) 0) (hd_hB _) (Nat.le_refl _) (Nat.le_of_ble_eq_true rfl)) hG.facts0.now.1 hG.facts0.now.2.1)) <| cR [[], [17]] <| cN) (fun ρ4 => ?_)
 refine ok_seq ?_
 refine sS Tryz.f64 3 [2, 4, 13, 14, 15] [] (fun _ => [(vs (nb ρ4 2) 4 32), (vi 4), (vi 0)]) (fun _ => []) (cR [[], [], []] <| cN) (fun _ => ?_)
 refine ok_block ?_
 refine ok_rounds 5 ?_
 refine okr_succ ?_
 refine sS Tryz.f64 1 [2, 4, 13, 14, 15, 16] [] (fun _ => [(.bool true)]) (fun _ => []) (cR [[]] <| cN) (fun _ => ?_)
 refine ok_seq ?_
 refine oY ?_
 refine ok_skip ?_
 refine mt_then ?_
 refine ok_seq ?_
 refine ok_block ?_
 refine sS Tryz.f64 3 [2, 4, 7, 13, 14, 15, 16, 17, 18] [] (fun _ => [(pt (nb ρ4 2)), (.int .u8 (byt (shaN (hL k.p)) 0)), (.int .u8 (byt (shaN (hL k.p)) 0))]) (fun _ => []) (cR [[], [0], []] <| cN) (fun _ => ?_)
 refine dRs [(2, (.int .u32 0)), (4, (.int .u32 0)), (7, (.int .u8 (byt (shaN (hL k.p)) 0))), (13, (vs (nb ρ4 2) 4 32)), (14, (vi 4)), (15, (vi 0)), (16, (.bool true)), (17, (pt (nb ρ4 2))), (18, (.int .u8 (byt (shaN (hL k.p)) 0)))] [(nb ρ4 2, (cL (hB (shaN (hL k.p))) 43))] ?_
 refine rS Tryz.f64 6 [2, 4, 7, 13, 14, 15, 16, 17, 18, 19, 20, 21, 22, 23] [] (fun _ => [(.int .u32 0), (.int .u32 0), (.int .u8 (byt (shaN (hL k.p)) 0)), (.int .u32 ((bN (shaN (hL k.p)) 0 : Nat) : Int)), (.int .u32 ((hiN (shaN (hL k.p)) 1 : Nat) : Int)), (.int .u32 ((hiN (shaN (hL k.p)) 1 : Nat) : Int))]) (fun _ => []) (cR [[], [], []] <| cA (fun _ => (.int .u32 ((bN (shaN (hL k.p)) 0 : Nat) : Int))) (fun _ => congrArg (Value.int .u32) (u32_bN (shaN (hL k.p)) 0)) <| cA (v := fun ρ => (.int .u32 (bits .or .u32 0 ((bN (shaN (hL k.p)) 0 : Nat) : Int)))) (fun _ => (.int .u32 ((hiN (shaN (hL k.p)) 1 : Nat) : Int))) (fun _ => congrArg (Value.int .u32) (or_hi (D := (shaN (hL k.p))) (j := 0) (by decide))) <| cR [[]] <| cN) (fun _ => ?_)
 refine mt_block_n ?_
 refine mt_then ?_
 refine rS Tryz.f64 2 [2, 4, 7, 13, 14, 15, 16, 17, 18, 19, 20, 21, 22, 23, 24] [] (fun _ => [(vi 1), (vi 1)]) (fun _ => []) (cR [[], []] <| cN) (fun _ => ?_)
 refine mt_rounds ?_
 refine okr_succ ?_
 refine sS Tryz.f64 1 [2, 4, 7, 13, 14, 15, 16, 17, 18, 19, 20, 21, 22, 23, 24] [] (fun _ => [(.bool true)]) (fun _ => []) (cR [[]] <| cN) (fun _ => ?_)
 refine ok_seq ?_
 refine oY ?_
 refine ok_skip ?_
 refine mt_then ?_
 refine ok_seq ?_
 refine ok_block ?_
 refine sS Tryz.f64 3 [2, 4, 7, 13, 14, 15, 16, 17, 18, 19, 20, 21, 22, 23, 24] [] (fun _ => [(.pointer (some ⟨nb ρ4 2, 1, none⟩)), (.int .u8 (byt (shaN (hL k.p)) 1)), (.int .u8 (byt (shaN (hL k.p)) 1))]) (fun _ => []) (cR [[], [0], []] <| cN) (fun _ => ?_)
 refine rS Tryz.f64 6 [2, 4, 7, 13, 14, 15, 16, 17, 18, 19, 20, 21, 22, 23, 24] [] (fun _ => [(.int .u32 ((hiN (shaN (hL k.p)) 1 : Nat) : Int)), (.int .u32 ((hiN (shaN (hL k.p)) 1 * 256 : Nat) : Int)), (.int .u8 (byt (shaN (hL k.p)) 1)), (.int .u32 ((bN (shaN (hL k.p)) 1 : Nat) : Int)), (.int .u32 ((hiN (shaN (hL k.p)) 2 : Nat) : Int)), (.int .u32 ((hiN (shaN (hL k.p)) 2 : Nat) : Int))]) (fun _ => []) (cR [[]] <| cB (a := fun ρ => (.int .u32 ((hiN (shaN (hL k.p)) 1 : Nat) : Int))) (b := fun ρ => (.int .u64 8)) (v := fun ρ => (.int .u32 ((hiN (shaN (hL k.p)) 1 * 256 : Nat) : Int))) .shl 41 (fun _ w => run_hi8 (D := (shaN (hL k.p))) (j := 1) (by decide) w) <| cR [[]] <| cA (fun _ => (.int .u32 ((bN (shaN (hL k.p)) 1 : Nat) : Int))) (fun _ => congrArg (Value.int .u32) (u32_bN (shaN (hL k.p)) 1)) <| cA (v := fun ρ => (.int .u32 (bits .or .u32 ((hiN (shaN (hL k.p)) 1 * 256 : Nat) : Int) ((bN (shaN (hL k.p)) 1 : Nat) : Int)))) (fun _ => (.int .u32 ((hiN (shaN (hL k.p)) 2 : Nat) : Int))) (fun _ => congrArg (Value.int .u32) (or_hi (D := (shaN (hL k.p))) (j := 1) (by decide))) <| cR [[]] <| cN) (fun _ => ?_)
 refine mt_block_n ?_
 refine mt_then ?_
 refine rS Tryz.f64 2 [2, 4, 7, 13, 14, 15, 16, 17, 18, 19, 20, 21, 22, 23, 24] [] (fun _ => [(vi 2), (vi 2)]) (fun _ => []) (cR [[], []] <| cN) (fun _ => ?_)
 refine mt_rounds ?_
 refine okr_succ ?_
 refine sS Tryz.f64 1 [2, 4, 7, 13, 14, 15, 16, 17, 18, 19, 20, 21, 22, 23, 24] [] (fun _ => [(.bool true)]) (fun _ => []) (cR [[]] <| cN) (fun _ => ?_)
 refine dRs [(2, (.int .u32 0)), (4, (.int .u32 ((hiN (shaN (hL k.p)) 2 : Nat) : Int))), (7, (.int .u8 (byt (shaN (hL k.p)) 1))), (13, (vs (nb ρ4 2) 4 32)), (14, (vi 4)), (15, (vi 2)), (16, (.bool true)), (17, (.pointer (some ⟨nb ρ4 2, 1, none⟩))), (18, (.int .u8 (byt (shaN (hL k.p)) 1))), (19, (.int .u32 ((hiN (shaN (hL k.p)) 1 : Nat) : Int))), (20, (.int .u32 ((hiN (shaN (hL k.p)) 1 * 256 : Nat) : Int))), (21, (.int .u8 (byt (shaN (hL k.p)) 1))), (22, (.int .u32 ((bN (shaN (hL k.p)) 1 : Nat) : Int))), (23, (.int .u32 ((hiN (shaN (hL k.p)) 2 : Nat) : Int))), (24, (vi 2))] [(nb ρ4 2, (cL (hB (shaN (hL k.p))) 43))] ?_
 refine ok_seq ?_
 refine oY ?_
 refine ok_skip ?_
 refine mt_then ?_
 refine ok_seq ?_
 refine ok_block ?_
 refine sS Tryz.f64 3 [2, 4, 7, 13, 14, 15, 16, 17, 18, 19, 20, 21, 22, 23, 24] [] (fun _ => [(.pointer (some ⟨nb ρ4 2, 2, none⟩)), (.int .u8 (byt (shaN (hL k.p)) 2)), (.int .u8 (byt (shaN (hL k.p)) 2))]) (fun _ => []) (cR [[], [0], []] <| cN) (fun _ => ?_)
 refine rS Tryz.f64 6 [2, 4, 7, 13, 14, 15, 16, 17, 18, 19, 20, 21, 22, 23, 24] [] (fun _ => [(.int .u32 ((hiN (shaN (hL k.p)) 2 : Nat) : Int)), (.int .u32 ((hiN (shaN (hL k.p)) 2 * 256 : Nat) : Int)), (.int .u8 (byt (shaN (hL k.p)) 2)), (.int .u32 ((bN (shaN (hL k.p)) 2 : Nat) : Int)), (.int .u32 ((hiN (shaN (hL k.p)) 3 : Nat) : Int)), (.int .u32 ((hiN (shaN (hL k.p)) 3 : Nat) : Int))]) (fun _ => []) (cR [[]] <| cB (a := fun ρ => (.int .u32 ((hiN (shaN (hL k.p)) 2 : Nat) : Int))) (b := fun ρ => (.int .u64 8)) (v := fun ρ => (.int .u32 ((hiN (shaN (hL k.p)) 2 * 256 : Nat) : Int))) .shl 41 (fun _ w => run_hi8 (D := (shaN (hL k.p))) (j := 2) (by decide) w) <| cR [[]] <| cA (fun _ => (.int .u32 ((bN (shaN (hL k.p)) 2 : Nat) : Int))) (fun _ => congrArg (Value.int .u32) (u32_bN (shaN (hL k.p)) 2)) <| cA (v := fun ρ => (.int .u32 (bits .or .u32 ((hiN (shaN (hL k.p)) 2 * 256 : Nat) : Int) ((bN (shaN (hL k.p)) 2 : Nat) : Int)))) (fun _ => (.int .u32 ((hiN (shaN (hL k.p)) 3 : Nat) : Int))) (fun _ => congrArg (Value.int .u32) (or_hi (D := (shaN (hL k.p))) (j := 2) (by decide))) <| cR [[]] <| cN) (fun _ => ?_)
 refine mt_block_n ?_
 refine mt_then ?_
 refine rS Tryz.f64 2 [2, 4, 7, 13, 14, 15, 16, 17, 18, 19, 20, 21, 22, 23, 24] [] (fun _ => [(vi 3), (vi 3)]) (fun _ => []) (cR [[], []] <| cN) (fun _ => ?_)
 refine mt_rounds ?_
 refine okr_succ ?_
 refine sS Tryz.f64 1 [2, 4, 7, 13, 14, 15, 16, 17, 18, 19, 20, 21, 22, 23, 24] [] (fun _ => [(.bool true)]) (fun _ => []) (cR [[]] <| cN) (fun _ => ?_)
 refine ok_seq ?_
 refine oY ?_
 refine ok_skip ?_
 refine mt_then ?_
 refine ok_seq ?_
 refine ok_block ?_
 refine sS Tryz.f64 3 [2, 4, 7, 13, 14, 15, 16, 17, 18, 19, 20, 21, 22, 23, 24] [] (fun _ => [(.pointer (some ⟨nb ρ4 2, 3, none⟩)), (.int .u8 (byt (shaN (hL k.p)) 3)), (.int .u8 (byt (shaN (hL k.p)) 3))]) (fun _ => []) (cR [[], [0], []] <| cN) (fun _ => ?_)
 refine rS Tryz.f64 6 [2, 4, 7, 13, 14, 15, 16, 17, 18, 19, 20, 21, 22, 23, 24] [] (fun _ => [(.int .u32 ((hiN (shaN (hL k.p)) 3 : Nat) : Int)), (.int .u32 ((hiN (shaN (hL k.p)) 3 * 256 : Nat) : Int)), (.int .u8 (byt (shaN (hL k.p)) 3)), (.int .u32 ((bN (shaN (hL k.p)) 3 : Nat) : Int)), (.int .u32 ((hiN (shaN (hL k.p)) 4 : Nat) : Int)), (.int .u32 ((hiN (shaN (hL k.p)) 4 : Nat) : Int))]) (fun _ => []) (cR [[]] <| cB (a := fun ρ => (.int .u32 ((hiN (shaN (hL k.p)) 3 : Nat) : Int))) (b := fun ρ => (.int .u64 8)) (v := fun ρ => (.int .u32 ((hiN (shaN (hL k.p)) 3 * 256 : Nat) : Int))) .shl 41 (fun _ w => run_hi8 (D := (shaN (hL k.p))) (j := 3) (by decide) w) <| cR [[]] <| cA (fun _ => (.int .u32 ((bN (shaN (hL k.p)) 3 : Nat) : Int))) (fun _ => congrArg (Value.int .u32) (u32_bN (shaN (hL k.p)) 3)) <| cA (v := fun ρ => (.int .u32 (bits .or .u32 ((hiN (shaN (hL k.p)) 3 * 256 : Nat) : Int) ((bN (shaN (hL k.p)) 3 : Nat) : Int)))) (fun _ => (.int .u32 ((hiN (shaN (hL k.p)) 4 : Nat) : Int))) (fun _ => congrArg (Value.int .u32) (or_hi (D := (shaN (hL k.p))) (j := 3) (by decide))) <| cR [[]] <| cN) (fun _ => ?_)
 refine mt_block_n ?_
 refine mt_then ?_
 refine rS Tryz.f64 2 [2, 4, 7, 13, 14, 15, 16, 17, 18, 19, 20, 21, 22, 23, 24] [] (fun _ => [(vi 4), (vi 4)]) (fun _ => []) (cR [[], []] <| cN) (fun _ => ?_)
 refine mt_rounds ?_
 refine okr_succ ?_
 refine sS Tryz.f64 1 [2, 4, 7, 13, 14, 15, 16, 17, 18, 19, 20, 21, 22, 23, 24] [] (fun _ => [(.bool false)]) (fun _ => []) (cR [[]] <| cN) (fun _ => ?_)
 refine dRs [(2, (.int .u32 0)), (4, (.int .u32 ((hiN (shaN (hL k.p)) 4 : Nat) : Int))), (7, (.int .u8 (byt (shaN (hL k.p)) 3))), (13, (vs (nb ρ4 2) 4 32)), (14, (vi 4)), (15, (vi 4)), (16, (.bool false)), (17, (.pointer (some ⟨nb ρ4 2, 3, none⟩))), (18, (.int .u8 (byt (shaN (hL k.p)) 3))), (19, (.int .u32 ((hiN (shaN (hL k.p)) 3 : Nat) : Int))), (20, (.int .u32 ((hiN (shaN (hL k.p)) 3 * 256 : Nat) : Int))), (21, (.int .u8 (byt (shaN (hL k.p)) 3))), (22, (.int .u32 ((bN (shaN (hL k.p)) 3 : Nat) : Int))), (23, (.int .u32 ((hiN (shaN (hL k.p)) 4 : Nat) : Int))), (24, (vi 4))] [(nb ρ4 2, (cL (hB (shaN (hL k.p))) 43))] ?_
 refine ok_seq ?_
 refine oN ?_
 refine ok_exit ?_
 refine mt_then_e ?_
 refine mt_then_e ?_
 refine mt_block_h ?_
 refine mt_then ?_
 refine sS Tryz.f64 2 [2] [0] (fun _ => [(.int .u32 ((hiN (shaN (hL k.p)) 4 : Nat) : Int)), (.int .u32 ((hiN (shaN (hL k.p)) 4 : Nat) : Int))]) (fun _ => []) (cR [[], []] <| cN) (fun _ => ?_)
 refine ok_ret ?_
 exact mR (v := (.int .u32 ((hiN (shaN (hL k.p)) 4 : Nat) : Int))) (fun _ hS => ⟨rfl, hS.bel⟩)
def kpL (K : Nat) : List UInt8 := hL K ++ List.replicate 32 0
theorem kpL_len (K : Nat) : (kpL K).length = 64 := by simp [kpL, hL_length]
theorem xB_len (v : UInt8) (K : Nat) : (xB v K).length = 64 := by simp [xB, hL_length]
theorem xB_get (v : UInt8) (K : Nat) {i : Nat} (h : i < 64) : gB (xB v K) i = gB (kpL K) i ^^^ v.toNat := by
  have hk : i < (kpL K).length := by rw [kpL_len]; exact h
  unfold gB xB
  rw [show hL K ++ List.replicate 32 0 = kpL K from rfl, List.getD_eq_getElem?_getD, List.getD_eq_getElem?_getD, List.getElem?_map, List.getElem?_eq_getElem hk]
  simp
def hmf (v : UInt8) (K m i : Nat) : Nat := if i < m then gB (xB v K) i else gB (kpL K) i
theorem hmf_at {v : UInt8} {K i : Nat} : hmf v K i i = gB (kpL K) i := by unfold hmf; rw [if_neg (by omega)]
theorem xor8 {a b : Nat} (ha : a < 256) (hb : b < 256) : bits .xor .u8 (a : Int) (b : Int) = ((a ^^^ b : Nat) : Int) := bits_xorU rfl ha hb
theorem hm_xor {v : UInt8} {K i : Nat} (h : i < 64) : bits .xor .u8 ((gB (kpL K) i : Nat) : Int) ((v.toNat : Nat) : Int) = ((gB (xB v K) i : Nat) : Int) := by
  rw [xor8 (gB_lt _ _) (UInt8.toNat_lt v), xB_get v K h]
theorem hmf_set {v : UInt8} {K m : Nat} : (rowK .u8 64 (hmf v K m)).setIfInBounds m (.int .u8 ((gB (xB v K) m : Nat) : Int)) = rowK .u8 64 (hmf v K (m + 1)) := by
  rw [rowK_set]
  refine rowK_congr fun i _ => ?_
  unfold hmf
  by_cases h : i = m
  · subst h; rw [if_pos rfl, if_pos (by omega)]
  · rw [if_neg h]
    by_cases h2 : i < m
    · rw [if_pos h2, if_pos (by omega)]
    · rw [if_neg h2, if_neg (by omega)]
theorem rowK_bs {xs : List UInt8} {n : Nat} (h : xs.length = n) : rowK .u8 n (gB xs) = (bs xs).toArray := by
  subst h
  unfold rowK bs
  congr 1
  apply List.ext_getElem
  · simp
  · intro i h1 h2
    have hi : i < xs.length := by simpa using h1
    simp [gB, bv, List.getD_eq_getElem?_getD, List.getElem?_eq_getElem hi]
theorem hmf_end {v : UInt8} {K m : Nat} (h : 64 ≤ m) : rowK .u8 64 (hmf v K m) = (bs (xB v K)).toArray := by
  rw [← rowK_bs (xB_len v K)]
  exact rowK_congr fun i hi => by unfold hmf; rw [if_pos (by omega)]
theorem hmf_zero (v : UInt8) (K : Nat) : (bs (kpL K)).toArray = rowK .u8 64 (hmf v K 0) := by
  rw [← rowK_bs (kpL_len K)]
  exact rowK_congr fun i hi => by unfold hmf; rw [if_neg (by omega)]
theorem hm_copy (K : Nat) : inpl (rowK .u8 64 (fun _ => 0)) 0 (bs ((hL K).take 64)) = (bs (kpL K)).toArray := by
  rw [List.take_of_length_le (by rw [hL_length]; decide)]
  have e : rowK .u8 64 (fun _ => 0) = (bs (List.replicate 64 0)).toArray := by
    rw [← rowK_bs (List.length_replicate ..)]
    exact rowK_congr fun i hi => by unfold gB; rw [List.getD_eq_getElem?_getD, List.getElem?_replicate, if_pos hi]; rfl
  rw [e]
  unfold inpl kpL bs
  simp [hL_length]
theorem kC_chain (s p c : Nat) (d i n : Int) (j : Nat) (hj : j < 32) : (kC s p c d i n)[8 + j]? = (hB c)[j]? := by
  unfold kC
  rw [Array.getElem?_append_left (by simp [cU, hB_size]; omega), Array.getElem?_append_right (by simp [cU]), show 8 + j - (cU s ++ cU p).size = j by simp [cU]]
theorem Bs.of_key {w : World} {g s p c : Nat} {d i n : Int} {T : TypeId} {fr : Nat × Nat} (hb : w.heap[g]? = some (.cells (kC s p c d i n) T fr)) : Bs w (some ⟨g, 8, none⟩) 32 (hL c) := by
  refine ⟨by rw [hL_length]; exact Nat.le_refl _, by rw [hL_length]; decide, Or.inr ⟨_, rfl, fun j v hv => ?_⟩⟩
  have hj : j < 32 := by
    have := (List.getElem?_eq_some_iff.1 hv).1
    rw [bs_length, hL_length] at this; exact this
  have h1 : (hB c)[j]? = some v := by
    have hh := hd_hB c
    unfold Hd at hh
    rw [← hh, List.getElem?_take, if_pos (by rw [hL_length]; exact hj)] at hv
    simpa using hv
  rw [show (⟨g, 8, none⟩ : Addr).add j = ⟨g, 8 + j, none⟩ by simp [Addr.add]]
  unfold World.cell?
  simp only [hb]
  rw [← h1, ← kC_chain s p c d i n j hj]
  simp
theorem hmac_any (a : Option Addr) (c : Nat) (K : Nat) (a2 : Option Addr) (c2 : Nat) (S : List UInt8) (hl : S.length + 200 ≤ 140737488351232) (w0 : World) (hf0 : Bs w0 a c (hL K)) (hf1 : Bs w0 a2 c2 S) (hf2 : KbK w0) (hf3 : KbI w0) : Calls Tryz.prog 63 #[(.slice a (hL K).length c), (.slice a2 (S).length c2)] w0 (fun ε w' => ε = .returned (.agg (hB (hmN K S))) ∧ Below w0.heap.size w0 w') := by
 refine Calls.of_ok (n := 46) (F := (fun w => Bs w a c (hL K) ∧ Bs w a2 c2 S ∧ KbK w ∧ KbI w ∧ True)) Tryz.func63 rfl rfl rfl (by simp) (hf0.pers0.and (hf1.pers0.and (hf2.pers0.and (hf3.pers0.and persT)))) ?_
 refine sS Tryz.f63 1 [0, 1, 4] [] (fun ρ => [(pt (nb ρ 0))]) (fun ρ => [(0, (nw ρ 0 (cL (hB 0) 43)))]) (cR [[]] <| cN) (fun ρ1 => ?_)
 refine ok_seq ?_
 refine sS Tryz.f63 3 [0, 1, 4, 12] [] (fun _ => [(.slice a (hL K).length c), (vn ((hL K).length)), (.bool false)]) (fun _ => []) (cR [[], []] <| cA (v := fun ρ => (.bool (decide (64 < (((hL K).length : Nat) : Int))))) (fun _ => (.bool false)) (fun _ => congrArg Value.bool (decide_eq_false (by rw [hL_length]; decide))) <| cN) (fun _ => ?_)
 refine oN ?_
 refine ok_skip ?_
 refine mt_then ?_
 refine sS Tryz.f63 2 [0, 1, 4, 6, 7] [] (fun ρ => [(pt (nb ρ 0)), (pt (nb ρ 1))]) (fun ρ => [(0, (nw ρ 0 (cL (rowK .u8 64 (fun _ => 0)) 106))), (1, (nw ρ 1 (cL (rowK .u8 64 (fun _ => 0)) 106)))]) (cR [[], []] <| cN) (fun ρ3 => ?_)
 refine sS Tryz.f63 3 [0, 1, 4, 6, 7] [] (fun _ => [(vs (nb ρ3 0) 64 64), (.slice a (hL K).length c), (vn (Nat.min (hL K).length 64))]) (fun _ => [(2, (pwt 1 (nb ρ3 0) (cL ((bs (kpL K)).toArray) 106)))]) (cR [[], []] <| cX (o_put1 _ 1 (fun _ => do pure (Next.value (← Builtin.copy_ #[33, 33] 3 #[(vs (nb ρ3 0) 64 64), (.slice a (hL K).length c)]))) (fun _ => nb ρ3 0) (fun _ => (cL (rowK .u8 64 (fun _ => 0)) 106)) (fun _ => (cL ((bs (kpL K)).toArray) 106)) (fun _ => (vn (Nat.min (hL K).length 64))) (fun _ => (by kernel_rfl)) (fun _ => (by kernel_rfl)) (fun _ => (by kernel_rfl)) (fun _ => (by kernel_rfl)) (fun _ _ => trivial) (fun _ _ _ hG hg => (by as_aux_lemma => (rw [← hm_copy K]; exact copy_row Tryz.underlying33 u8i hg hG.facts0.now.1 rfl (Nat.le_of_eq (rowK_size _ 64 _).symm))))) <| cN) (fun _ => ?_)
 refine sS Tryz.f63 3 [1, 4, 6, 7] [] (fun _ => [(vs (nb ρ3 1) 64 64), (.slice a (hL K).length c), (vn (Nat.min (hL K).length 64))]) (fun _ => [(2, (pwt 2 (nb ρ3 1) (cL ((bs (kpL K)).toArray) 106)))]) (cR [[], []] <| cX (o_put1 _ 2 (fun _ => do pure (Next.value (← Builtin.copy_ #[33, 33] 3 #[(vs (nb ρ3 1) 64 64), (.slice a (hL K).length c)]))) (fun _ => nb ρ3 1) (fun _ => (cL (rowK .u8 64 (fun _ => 0)) 106)) (fun _ => (cL ((bs (kpL K)).toArray) 106)) (fun _ => (vn (Nat.min (hL K).length 64))) (fun _ => (by kernel_rfl)) (fun _ => (by kernel_rfl)) (fun _ => (by kernel_rfl)) (fun _ => (by kernel_rfl)) (fun _ _ => trivial) (fun _ _ _ hG hg => (by as_aux_lemma => (rw [← hm_copy K]; exact copy_row Tryz.underlying33 u8i hg hG.facts0.now.1 rfl (Nat.le_of_eq (rowK_size _ 64 _).symm))))) <| cN) (fun _ => ?_)
 refine ok_seq ?_
 refine sS Tryz.f63 1 [1, 4, 6, 7, 22] [] (fun _ => [(vi 0)]) (fun _ => []) (cR [[]] <| cN) (fun _ => ?_)
 refine ok_block ?_
 refine oL (σ := Nat × (Array Value) × (Array Value)) (fun ⟨m, _, _⟩ => [(1, (.slice a2 (S).length c2)), (4, (pt (nb ρ1 0))), (6, (pt (nb ρ3 0))), (7, (pt (nb ρ3 1))), (22, (vn m))]) (fun ⟨_, C1, C2⟩ => [(nb ρ1 0, (cL (hB 0) 43)), (nb ρ3 0, (cL C1 106)), (nb ρ3 1, (cL C2 106))]) (fun ⟨m, _, _⟩ => 64 - m)
   (fun ⟨m, C1, C2⟩ => (m ≤ 64) ∧ (C1 = rowK .u8 64 (hmf 54 K m)) ∧ (C2 = rowK .u8 64 (hmf 92 K m))) (0, (bs (kpL K)).toArray, (bs (kpL K)).toArray) (⟨by decide, hmf_zero 54 K, hmf_zero 92 K⟩) [] ?_
 rintro ⟨m, C1, C2⟩ ⟨hm, hC1, hC2⟩
 change Ok Tryz.prog _ _ 46 [(1, (.slice a2 (S).length c2)), (4, (pt (nb ρ1 0))), (6, (pt (nb ρ3 0))), (7, (pt (nb ρ3 1))), (22, (vn m))] _ [(nb ρ1 0, (cL (hB 0) 43)), (nb ρ3 0, (cL C1 106)), (nb ρ3 1, (cL C2 106))] (fun w => Bs w a c (hL K) ∧ Bs w a2 c2 S ∧ KbK w ∧ KbI w ∧ True)
 refine sS Tryz.f63 1 [1, 4, 6, 7, 22, 23] [] (fun _ => [(.bool (decide (((m : Nat) : Int) < 64)))]) (fun _ => []) (cR [[]] <| cN) (fun _ => ?_)
 refine ok_seq ?_
 refine oC (decide (((m : Nat) : Int) < 64)) (fun hb1 => ?_) (fun hb1 => ?_)
 ·
  rw [hb1]
  refine ok_skip ?_
  refine mt_then ?_
  refine ok_seq ?_
  refine ok_block ?_
  refine sS Tryz.f63 2 [1, 4, 6, 7, 8, 22] [] (fun _ => [(vn m), (vn m)]) (fun _ => []) (cR [[], []] <| cN) (fun _ => ?_)
  refine sS Tryz.f63 6 [1, 4, 6, 7, 8, 22] [] (fun _ => [(vn m), (.pointer (some ⟨nb ρ3 0, m, none⟩)), (.int .u8 ((gB (kpL K) m : Nat) : Int)), (.int .u8 ((gB (xB 54 K) m : Nat) : Int)), (.pointer (some ⟨nb ρ3 0, m, none⟩)), undef]) (fun _ => [(5, (pwt 1 (nb ρ3 0) (cL (rowK .u8 64 (hmf 54 K (m + 1))) 106)))]) (cR [[]] <| cX (o_sem _ (fun _ => do pure (Next.value (← Instr.indexAt 106 (pt (nb ρ3 0)) (vn m)))) (fun _ => (.pointer (some ⟨nb ρ3 0, m, none⟩))) (fun _ => by kernel_rfl) (fun _ => by kernel_rfl) (fun _ w => run_idx_nat (n := ((m : Nat) : Int)) (i := m) Tryz.underlying106 Tryz.sizeOf5 ((by have := yT hb1; have := hl; have := hm; omega)) w)) <| cX (o_ld _ 1 5 (fun _ => nb ρ3 0) (fun _ => m) (fun _ => C1) 106 (0, 0) (fun _ => (.int .u8 ((gB (kpL K) m : Nat) : Int))) (fun _ => by kernel_rfl) Tryz.isAgg5 (fun _ => (by rw [hC1, rowK_get (by have := yT hb1; have := hl; have := hm; omega), hmf_at]))) <| cA (v := fun ρ => (.int .u8 (bits .xor .u8 ((gB (kpL K) m : Nat) : Int) 54))) (fun _ => (.int .u8 ((gB (xB 54 K) m : Nat) : Int))) (fun _ => congrArg (Value.int .u8) (hm_xor (v := 54) (K := K) (i := m) (by have := yT hb1; have := hl; have := hm; omega))) <| cX (o_sem _ (fun _ => do pure (Next.value (← Instr.indexAt 106 (pt (nb ρ3 0)) (vn m)))) (fun _ => (.pointer (some ⟨nb ρ3 0, m, none⟩))) (fun _ => by kernel_rfl) (fun _ => by kernel_rfl) (fun _ w => run_idx_nat (n := ((m : Nat) : Int)) (i := m) Tryz.underlying106 Tryz.sizeOf5 ((by have := yT hb1; have := hl; have := hm; omega)) w)) <| cX (o_st _ 1 5 (fun _ => nb ρ3 0) (fun _ => m) (fun _ => C1) (fun _ => (rowK .u8 64 (hmf 54 K (m + 1)))) 106 (fun _ => (.int .u8 ((gB (xB 54 K) m : Nat) : Int))) (fun _ => by kernel_rfl) Tryz.sizeOf5 (fun _ => rfl) (fun _ => (by rw [hC1, rowK_size]; have := yT hb1; have := hl; have := hm; omega)) (fun _ => (by rw [hC1]; exact hmf_set))) <| cN) (fun _ => ?_)
  refine rS Tryz.f63 6 [1, 4, 6, 7, 22] [] (fun _ => [(vn m), (.pointer (some ⟨nb ρ3 1, m, none⟩)), (.int .u8 ((gB (kpL K) m : Nat) : Int)), (.int .u8 ((gB (xB 92 K) m : Nat) : Int)), (.pointer (some ⟨nb ρ3 1, m, none⟩)), undef]) (fun _ => [(5, (pwt 2 (nb ρ3 1) (cL (rowK .u8 64 (hmf 92 K (m + 1))) 106)))]) (cR [[]] <| cX (o_sem _ (fun _ => do pure (Next.value (← Instr.indexAt 106 (pt (nb ρ3 1)) (vn m)))) (fun _ => (.pointer (some ⟨nb ρ3 1, m, none⟩))) (fun _ => by kernel_rfl) (fun _ => by kernel_rfl) (fun _ w => run_idx_nat (n := ((m : Nat) : Int)) (i := m) Tryz.underlying106 Tryz.sizeOf5 ((by have := yT hb1; have := hl; have := hm; omega)) w)) <| cX (o_ld _ 2 5 (fun _ => nb ρ3 1) (fun _ => m) (fun _ => C2) 106 (0, 0) (fun _ => (.int .u8 ((gB (kpL K) m : Nat) : Int))) (fun _ => by kernel_rfl) Tryz.isAgg5 (fun _ => (by rw [hC2, rowK_get (by have := yT hb1; have := hl; have := hm; omega), hmf_at]))) <| cA (v := fun ρ => (.int .u8 (bits .xor .u8 ((gB (kpL K) m : Nat) : Int) 92))) (fun _ => (.int .u8 ((gB (xB 92 K) m : Nat) : Int))) (fun _ => congrArg (Value.int .u8) (hm_xor (v := 92) (K := K) (i := m) (by have := yT hb1; have := hl; have := hm; omega))) <| cX (o_sem _ (fun _ => do pure (Next.value (← Instr.indexAt 106 (pt (nb ρ3 1)) (vn m)))) (fun _ => (.pointer (some ⟨nb ρ3 1, m, none⟩))) (fun _ => by kernel_rfl) (fun _ => by kernel_rfl) (fun _ w => run_idx_nat (n := ((m : Nat) : Int)) (i := m) Tryz.underlying106 Tryz.sizeOf5 ((by have := yT hb1; have := hl; have := hm; omega)) w)) <| cX (o_st _ 2 5 (fun _ => nb ρ3 1) (fun _ => m) (fun _ => C2) (fun _ => (rowK .u8 64 (hmf 92 K (m + 1)))) 106 (fun _ => (.int .u8 ((gB (xB 92 K) m : Nat) : Int))) (fun _ => by kernel_rfl) Tryz.sizeOf5 (fun _ => rfl) (fun _ => (by rw [hC2, rowK_size]; have := yT hb1; have := hl; have := hm; omega)) (fun _ => (by rw [hC2]; exact hmf_set))) <| cN) (fun _ => ?_)
  refine mt_block_n ?_
  refine mt_then ?_
  refine rS Tryz.f63 2 [1, 4, 6, 7, 22] [] (fun _ => [(vn (m + 1)), (vn (m + 1))]) (fun _ => []) (cA (v := fun ρ => (vi (IntKind.i64.wrap (((m : Nat) : Int) + 1)))) (fun _ => (vn (m + 1))) (fun _ => congrArg (Value.int .i64) (wrap_addN m 1 (by have := yT hb1; have := hl; have := hm; omega))) <| cR [[]] <| cN) (fun _ => ?_)
  exact mN (m + 1, rowK .u8 64 (hmf 54 K (m + 1)), rowK .u8 64 (hmf 92 K (m + 1))) (by show 64 - (m + 1) < 64 - m; have := yT hb1; have := hl; have := hm; omega) (⟨(by have := yT hb1; have := hl; have := hm; omega), rfl, rfl⟩) []
 ·
  rw [hb1]
  refine ok_exit ?_
  refine mt_then_e ?_
  refine mt_then_e ?_
  refine mt_block_h ?_
  rw [hC1]
  rw [hC2]
  refine mt_then ?_
  refine sSf Tryz.f63 7 [4, 7, 9] [1, 0, 1, 0, 1] (fun ρ => [(vs (nb ρ3 0) (xB 54 K).length 64), (.slice a2 (S).length c2), (vs (nb ρ 2) 2 2), (.slice (oa ρ 3) ((xB 54 K) ++ S).length (nb ρ 3)), (.agg (hB (shaN ((xB 54 K) ++ S)))), (pt (nb ρ 5)), undef]) (fun ρ => [(2, (nw ρ 2 (cL #[(vs (nb ρ3 0) (xB 54 K).length 64), (.slice a2 (S).length c2)] 33))), (5, (nw ρ 5 (cL (hB 0) 43))), (6, (pwt 43 (nb ρ 5) (cL (hB (shaN ((xB 54 K) ++ S))) 43)))]) (fun ρ => [(3, fun w => Fs w0 w (oa ρ 3) (nb ρ 3) ((xB 54 K) ++ S))]) (fun ρ => (fun w => Bs w a c (hL K) ∧ Bs w a2 c2 S ∧ KbK w ∧ KbI w ∧ Fs w0 w (oa ρ 3) (nb ρ 3) ((xB 54 K) ++ S) ∧ True)) (fun _ => True) (fun _ _ hF hf => ⟨⟨hF.1, hF.2.1, hF.2.2.1, hF.2.2.2.1, hf 3, trivial⟩, trivial⟩) (cR [[], [], []] <| cX (qB (fun ρ _ w hG => shrow2_any (nb ρ 2) (some ⟨nb ρ3 0, 0, none⟩) 64 (xB 54 K) a2 c2 S (by simp only [xB_len]; have := hl; omega) (by rw [xB_len]; decide) w (Kb.of_block (hG.kn (g := nb ρ 2) (o := (cL #[(vs (nb ρ3 0) (xB 54 K).length 64), (.slice a2 (S).length c2)] 33)) 19)) (Bs.of_hd (c := 64) (hG.kn (g := nb ρ3 0) (o := (cL (rowK .u8 64 (hmf 54 K m)) 106)) 1) (by rw [hmf_end (by have := yF hb1; have := hl; have := hm; omega)]; exact Hd.all _) (Nat.le_of_eq (xB_len _ _)) (by rw [xB_len]; decide)) hG.facts0.now.2.1)) <| cX (qC (fun ρ _ w hG => sum_any (oa ρ 3) (nb ρ 3) ((xB 54 K) ++ S) (by simp only [List.length_append, xB_len]; omega) (by simp only [List.length_append, xB_len]; have := hl; omega) w ((show Fs w0 w (oa ρ 3) (nb ρ 3) ((xB 54 K) ++ S) from (hG.facts 3 rfl).now).1) hG.facts0.now.2.2.1 hG.facts0.now.2.2.2.1)) <| cR [[], [43]] <| cN) (fun ρ12 _ => ?_)
  refine sDf Tryz.f63 [0, 0, 3, 7, 15, 31] 6 [4] [1, 0, 0, 0] (fun ρ => [(vs (nb ρ3 1) (xB 92 K).length 64), (vs (nb ρ12 5) (hL (shaN ((xB 54 K) ++ S))).length 32), (vs (nb ρ 2) 2 2), (.slice (oa ρ 3) ((xB 92 K) ++ (hL (shaN ((xB 54 K) ++ S)))).length (nb ρ 3)), (.agg (hB (shaN ((xB 92 K) ++ (hL (shaN ((xB 54 K) ++ S))))))), undef]) (fun ρ => [(2, (nw ρ 2 (cL #[(vs (nb ρ3 1) (xB 92 K).length 64), (vs (nb ρ12 5) (hL (shaN ((xB 54 K) ++ S))).length 32)] 33))), (5, (pwt 0 (nb ρ1 0) (cL (hB (shaN ((xB 92 K) ++ (hL (shaN ((xB 54 K) ++ S)))))) 43)))]) (fun ρ => [(3, fun w => Fs w0 w (oa ρ 3) (nb ρ 3) ((xB 92 K) ++ (hL (shaN ((xB 54 K) ++ S)))))]) (fun ρ => (fun w => Bs w a c (hL K) ∧ Bs w a2 c2 S ∧ KbK w ∧ KbI w ∧ Fs w0 w (oa ρ12 3) (nb ρ12 3) ((xB 54 K) ++ S) ∧ Fs w0 w (oa ρ 3) (nb ρ 3) ((xB 92 K) ++ (hL (shaN ((xB 54 K) ++ S)))) ∧ True)) (fun _ => True) (fun _ _ hF hf => ⟨⟨hF.1, hF.2.1, hF.2.2.1, hF.2.2.2.1, hF.2.2.2.2.1, hf 3, trivial⟩, trivial⟩) (cR [[], [], []] <| cX (qB (fun ρ _ w hG => shrow2_any (nb ρ 2) (some ⟨nb ρ3 1, 0, none⟩) 64 (xB 92 K) (some ⟨nb ρ12 5, 0, none⟩) 32 (hL (shaN ((xB 54 K) ++ S))) (by simp only [xB_len, hL_length]; have := hl; omega) (by rw [xB_len]; decide) w (Kb.of_block (hG.kn (g := nb ρ 2) (o := (cL #[(vs (nb ρ3 1) (xB 92 K).length 64), (vs (nb ρ12 5) (hL (shaN ((xB 54 K) ++ S))).length 32)] 33)) 19)) (Bs.of_hd (c := 64) (hG.kn (g := nb ρ3 1) (o := (cL (rowK .u8 64 (hmf 92 K m)) 106)) 1) (by rw [hmf_end (by have := yF hb1; have := hl; have := hm; omega)]; exact Hd.all _) (Nat.le_of_eq (xB_len _ _)) (by rw [xB_len]; decide)) (Bs.of_hd (c := 32) (hG.kn (g := nb ρ12 5) (o := (cL (hB (shaN ((xB 54 K) ++ S))) 43)) 2) (hd_hB _) (Nat.le_refl _) (Nat.le_of_ble_eq_true rfl)))) <| cX (qC (fun ρ _ w hG => sum_any (oa ρ 3) (nb ρ 3) ((xB 92 K) ++ (hL (shaN ((xB 54 K) ++ S)))) (by simp only [List.length_append, xB_len]; omega) (by simp only [List.length_append, xB_len, hL_length]; have := hl; omega) w ((show Fs w0 w (oa ρ 3) (nb ρ 3) ((xB 92 K) ++ (hL (shaN ((xB 54 K) ++ S)))) from (hG.facts 3 rfl).now).1) hG.facts0.now.2.2.1 hG.facts0.now.2.2.2.1)) <| cR [[0]] <| cN) (fun _ _ => ?_)
  refine ok_ret ?_
  exact mR (v := (.agg (hB (shaN ((xB 92 K) ++ (hL (shaN ((xB 54 K) ++ S)))))))) (fun _ hS => ⟨rfl, hS.bel⟩)
theorem grow0_any (n : Nat) (hn : 0 < n ∧ n ≤ 140737488351232) (w0 : World) : Calls Tryz.prog 124 #[(.slice none 0 0), (vn n)] w0 (fun ε w' => ∃ z : List Nat, ε = .returned (vs (z.headD 0) 0 (z.tail.headD 0)) ∧ Below w0.heap.size w0 w' ∧ w0.heap.size ≤ z.headD 0 ∧ w'.heap[z.headD 0]? = some (cL (zB (z.tail.headD 0)) 5)) := by
 refine Calls.of_ok (n := 27) (F := (fun _ => True)) Tryz.func124 rfl rfl rfl (by simp) (persTrue (fun _ => trivial)) ?_
 refine sS Tryz.f124 1 [0, 1, 4] [] (fun _ => [(.slice none 0 0)]) (fun _ => []) (cR [[]] <| cN) (fun _ => ?_)
 refine ok_seq ?_
 refine sS Tryz.f124 2 [0, 1, 4, 6] [] (fun _ => [(vn n), (.bool false)]) (fun _ => []) (cR [[]] <| cA (v := fun ρ => (.bool (decide (((n : Nat) : Int) < 0)))) (fun _ => (.bool false)) (fun _ => congrArg Value.bool (decide_eq_false (Int.not_lt.2 (Int.natCast_nonneg _)))) <| cN) (fun _ => ?_)
 refine oN ?_
 refine ok_skip ?_
 refine mt_then ?_
 refine ok_seq ?_
 refine sS Tryz.f124 8 [0, 1, 4] [] (fun _ => [(vn n), (.slice none 0 0), (vi 0), (.slice none 0 0), (vi 0), (vi 0), (vn n), (vn n)]) (fun _ => []) (cR [[], [], [], [], [], []] <| cA (v := fun ρ => (vi (IntKind.i64.wrap (((n : Nat) : Int) - 0)))) (fun _ => (vn n)) (fun _ => congrArg (Value.int .i64) ((i64N (by have := hn; omega)).trans (by omega))) <| cR [[]] <| cN) (fun _ => ?_)
 refine sS Tryz.f124 2 [0, 1, 4, 16] [] (fun _ => [(vn n), (.bool true)]) (fun _ => []) (cR [[]] <| cA (v := fun ρ => (.bool (decide (0 < ((n : Nat) : Int))))) (fun _ => (.bool true)) (fun _ => congrArg Value.bool (decide_eq_true (by have := hn; omega))) <| cN) (fun _ => ?_)
 refine oY ?_
 refine rS Tryz.f124 10 [0, 4] [] (fun ρ => [(.slice none 0 0), (.slice none 0 0), (vi 0), (.slice none 0 0), (vn n), (vs (nb ρ 5) (List.replicate n (0 : UInt8)).length (n + nb2 ρ 5)), (.slice none 0 0), (vi 0), (vs (nb ρ 5) (mid (List.replicate n (0 : UInt8)) 0 0).length (n + nb2 ρ 5)), (vs (nb ρ 5) (mid (List.replicate n (0 : UInt8)) 0 0).length (n + nb2 ρ 5))]) (fun ρ => [(5, (nw ρ 5 (cL (zB (n + nb2 ρ 5)) 5)))]) (cR [[], [], [], [], []] <| cX (qN (fun _ ζ => (vs (ζ.headD 0) (List.replicate n (0 : UInt8)).length (n + ζ.tail.headD 0))) (fun _ ζ => (cL (zB (n + ζ.tail.headD 0)) 5)) (fun _ _ _ _ => app_zeros (ty := 33) Tryz.underlying33 u8i Tryz.underlying3 (hn.1) (hn.2))) <| cR [[], []] <| cX (o_semF _ (fun ρ => do pure (Next.value (← Instr.sliceAt 33 (vs (nb ρ 5) (List.replicate n (0 : UInt8)).length (n + nb2 ρ 5)) none (some (vi 0)) none))) (fun ρ => (vs (nb ρ 5) (mid (List.replicate n (0 : UInt8)) 0 0).length (n + nb2 ρ 5))) (fun _ => (by kernel_rfl)) (fun _ => (by kernel_rfl)) (fun ρ _ _ hG => (slice_bytes (l := 0) (k := 0) Tryz.underlying33 u8i (Bs.of_hd (hG.kn (g := nb ρ 5) (o := (cL (zB (n + nb2 ρ 5)) 5)) 40) (hdz_le _ _) (by rw [List.length_replicate]; exact Nat.le_add_right _ _) (by rw [List.length_replicate]; exact hn.2)) rfl (Or.inl ⟨rfl, rfl⟩) (Or.inr (congrArg (fun z => some (Value.int .i64 z)) (rfl))) ((Nat.le_refl _)) ((Nat.zero_le _))).trans (by rw [sadr_zero, Nat.sub_zero])) (fun _ _ _ _ => persT)) <| cR [[]] <| cN) (fun ρ5 => ?_)
 refine mt_then ?_
 refine sS Tryz.f124 2 [4] [] (fun _ => [(vs (nb ρ5 5) (mid (List.replicate n (0 : UInt8)) 0 0).length (n + nb2 ρ5 5)), (vs (nb ρ5 5) (mid (List.replicate n (0 : UInt8)) 0 0).length (n + nb2 ρ5 5))]) (fun _ => []) (cR [[], []] <| cN) (fun _ => ?_)
 refine ok_ret ?_
 exact mR (v := (vs (nb ρ5 5) (mid (List.replicate n (0 : UInt8)) 0 0).length (n + nb2 ρ5 5))) (fun _ hS => ⟨[nb ρ5 5, n + nb2 ρ5 5], rfl, hS.bel, (hS.newb (.head _)).1, (hS.newb (.head _)).2⟩)
theorem concat2_any (g : Nat) (a0 : Option Addr) (c0 : Nat) (B0 : List UInt8) (a1 : Option Addr) (c1 : Nat) (B1 : List UInt8) (hl : B0.length + B1.length ≤ 140737488351232) (h0 : 0 < B0.length) (w0 : World) (hf0 : Kb w0 g #[(.slice a0 (B0).length c0), (.slice a1 (B1).length c1)]) (hf1 : Bs w0 a0 c0 B0) (hf2 : Bs w0 a1 c1 B1) : Calls Tryz.prog 97 #[(vs g 2 2)] w0 (fun ε w' => ∃ α κ, ε = .returned (.slice α (B0 ++ B1).length κ) ∧ Below w0.heap.size w0 w' ∧ Fs w0 w' α κ (B0 ++ B1)) := by
 refine Calls.of_ok (n := 36) (F := (fun w => Kb w g #[(.slice a0 (B0).length c0), (.slice a1 (B1).length c1)] ∧ Bs w a0 c0 B0 ∧ Bs w a1 c1 B1 ∧ True)) Tryz.func97 rfl rfl rfl (by simp) (hf0.pers0.and (hf1.pers0.and (hf2.pers0.and persT))) ?_
 refine sS Tryz.f97 1 [0, 2] [] (fun _ => [(.slice none 0 0)]) (fun _ => []) (cR [[]] <| cN) (fun _ => ?_)
 refine sS Tryz.f97 1 [0, 2, 3] [] (fun _ => [(vi 0)]) (fun _ => []) (cR [[]] <| cN) (fun _ => ?_)
 refine ok_seq ?_
 refine sS Tryz.f97 3 [0, 2, 3, 9, 10, 11] [] (fun _ => [(vs g 2 2), (vi 2), (vi 0)]) (fun _ => []) (cR [[], [], []] <| cN) (fun _ => ?_)
 refine ok_block ?_
 refine ok_rounds 3 ?_
 refine okr_succ ?_
 refine sS Tryz.f97 1 [0, 2, 3, 9, 10, 11, 12] [] (fun _ => [(.bool true)]) (fun _ => []) (cR [[]] <| cN) (fun _ => ?_)
 refine ok_seq ?_
 refine oY ?_
 refine ok_skip ?_
 refine mt_then ?_
 refine ok_seq ?_
 refine ok_block ?_
 refine sS Tryz.f97 3 [0, 2, 3, 5, 9, 10, 11, 12, 13, 14] [] (fun _ => [(pt g), (.slice a0 (B0).length c0), (.slice a0 (B0).length c0)]) (fun _ => []) (cR [[]] <| cX (qF (v := fun ρ => (.slice a0 (B0).length c0)) (fun _ _ _ hG => ld_blk (off := 0) Tryz.isAgg33 (hG.facts0.now.1) (rfl))) <| cR [[]] <| cN) (fun _ => ?_)
 refine sS Tryz.f97 5 [0, 2, 3, 5, 9, 10, 11, 12, 13, 14, 15, 16, 17, 18] [] (fun _ => [(vi 0), (.slice a0 (B0).length c0), (vn (B0).length), (vn (B0).length), (vn (B0).length)]) (fun _ => []) (cR [[], [], []] <| cA (v := fun ρ => (vi (IntKind.i64.wrap (0 + (((B0).length : Nat) : Int))))) (fun _ => (vn (B0).length)) (fun _ => congrArg (Value.int .i64) ((i64N (by have := hl; omega)).trans (by omega))) <| cR [[]] <| cN) (fun _ => ?_)
 refine sS Tryz.f97 2 [0, 2, 3, 5, 9, 10, 11, 12, 13, 14, 15, 16, 17, 18, 19, 20] [] (fun _ => [(vn (B0).length), (.bool false)]) (fun _ => []) (cR [[]] <| cA (v := fun ρ => (.bool (decide ((((B0).length : Nat) : Int) < 0)))) (fun _ => (.bool false)) (fun _ => congrArg Value.bool (decide_eq_false (Int.not_lt.2 (Int.natCast_nonneg _)))) <| cN) (fun _ => ?_)
 refine dRs [(0, (vs g 2 2)), (2, (.slice none 0 0)), (3, (vn (B0).length)), (5, (.slice a0 (B0).length c0)), (9, (vs g 2 2)), (10, (vi 2)), (11, (vi 0)), (12, (.bool true)), (13, (pt g)), (14, (.slice a0 (B0).length c0)), (15, (vi 0)), (16, (.slice a0 (B0).length c0)), (17, (vn (B0).length)), (18, (vn (B0).length)), (19, (vn (B0).length)), (20, (.bool false))] [] ?_
 refine oN ?_
 refine ok_skip ?_
 refine mt_block_n ?_
 refine mt_then ?_
 refine rS Tryz.f97 2 [0, 2, 3, 5, 9, 10, 11, 12, 13, 14, 15, 16, 17, 18, 19, 20, 22] [] (fun _ => [(vi 1), (vi 1)]) (fun _ => []) (cR [[], []] <| cN) (fun _ => ?_)
 refine mt_rounds ?_
 refine okr_succ ?_
 refine sS Tryz.f97 1 [0, 2, 3, 5, 9, 10, 11, 12, 13, 14, 15, 16, 17, 18, 19, 20, 22] [] (fun _ => [(.bool true)]) (fun _ => []) (cR [[]] <| cN) (fun _ => ?_)
 refine ok_seq ?_
 refine oY ?_
 refine ok_skip ?_
 refine mt_then ?_
 refine ok_seq ?_
 refine ok_block ?_
 refine sS Tryz.f97 3 [0, 2, 3, 5, 9, 10, 11, 12, 13, 14, 15, 16, 17, 18, 19, 20, 22] [] (fun _ => [(.pointer (some ⟨g, 1, none⟩)), (.slice a1 (B1).length c1), (.slice a1 (B1).length c1)]) (fun _ => []) (cR [[]] <| cX (qF (v := fun ρ => (.slice a1 (B1).length c1)) (fun _ _ _ hG => ld_blk (off := 1) Tryz.isAgg33 (hG.facts0.now.1) (rfl))) <| cR [[]] <| cN) (fun _ => ?_)
 refine sS Tryz.f97 5 [0, 2, 3, 5, 9, 10, 11, 12, 13, 14, 15, 16, 17, 18, 19, 20, 22] [] (fun _ => [(vn (B0).length), (.slice a1 (B1).length c1), (vn (B1).length), (vn (((B0).length) + ((B1).length))), (vn (((B0).length) + ((B1).length)))]) (fun _ => []) (cR [[], [], []] <| cA (v := fun ρ => (vi (IntKind.i64.wrap ((((B0).length : Nat) : Int) + (((B1).length : Nat) : Int))))) (fun _ => (vn (((B0).length) + ((B1).length)))) (fun _ => congrArg (Value.int .i64) (wrap_addN ((B0).length) ((B1).length) (by have := hl; have := h0; omega))) <| cR [[]] <| cN) (fun _ => ?_)
 refine sS Tryz.f97 2 [0, 2, 3, 5, 9, 10, 11, 12, 13, 14, 15, 16, 17, 18, 19, 20, 22] [] (fun _ => [(vn (((B0).length) + ((B1).length))), (.bool false)]) (fun _ => []) (cR [[]] <| cA (v := fun ρ => (.bool (decide (((((B0).length) + ((B1).length) : Nat) : Int) < 0)))) (fun _ => (.bool false)) (fun _ => congrArg Value.bool (decide_eq_false (Int.not_lt.2 (Int.natCast_nonneg _)))) <| cN) (fun _ => ?_)
 refine oN ?_
 refine ok_skip ?_
 refine mt_block_n ?_
 refine mt_then ?_
 refine rS Tryz.f97 2 [0, 2, 3, 5, 9, 10, 11, 12, 13, 14, 15, 16, 17, 18, 19, 20, 22] [] (fun _ => [(vi 2), (vi 2)]) (fun _ => []) (cR [[], []] <| cN) (fun _ => ?_)
 refine mt_rounds ?_
 refine okr_succ ?_
 refine sS Tryz.f97 1 [0, 2, 3, 5, 9, 10, 11, 12, 13, 14, 15, 16, 17, 18, 19, 20, 22] [] (fun _ => [(.bool false)]) (fun _ => []) (cR [[]] <| cN) (fun _ => ?_)
 refine dRs [(0, (vs g 2 2)), (2, (.slice none 0 0)), (3, (vn (((B0).length) + ((B1).length)))), (5, (.slice a1 (B1).length c1)), (9, (vs g 2 2)), (10, (vi 2)), (11, (vi 2)), (12, (.bool false)), (13, (.pointer (some ⟨g, 1, none⟩))), (14, (.slice a1 (B1).length c1)), (15, (vn (B0).length)), (16, (.slice a1 (B1).length c1)), (17, (vn (B1).length)), (18, (vn (((B0).length) + ((B1).length)))), (19, (vn (((B0).length) + ((B1).length)))), (20, (.bool false)), (22, (vi 2))] [] ?_
 refine ok_seq ?_
 refine oN ?_
 refine ok_exit ?_
 refine mt_then_e ?_
 refine mt_then_e ?_
 refine mt_block_h ?_
 refine mt_then ?_
 refine sS Tryz.f97 3 [0, 2, 6] [] (fun ρ => [(vn (((B0).length) + ((B1).length))), (vs (nb ρ 1) (([] : List UInt8)).length (nb2 ρ 1)), (vs (nb ρ 1) (([] : List UInt8)).length (nb2 ρ 1))]) (fun ρ => [(1, (nw ρ 1 (cL (zB (nb2 ρ 1)) 5)))]) (cR [[]] <| cX (o_callM _ 124 (fun _ => #[(.slice none 0 0), (vn (((B0).length) + ((B1).length)))]) (fun _ ζ => (vs (ζ.headD 0) (([] : List UInt8)).length (ζ.tail.headD 0))) (fun _ ζ => (cL (zB (ζ.tail.headD 0)) 5)) (fun _ _ => (by kernel_rfl)) (fun _ _ => (by kernel_rfl)) (fun _ _ => (by kernel_rfl)) (fun _ _ => trivial) (fun _ _ w _ => grow0_any (((B0).length) + ((B1).length)) (by have := hl; have := h0; omega) w )) <| cR [[]] <| cN) (fun ρ15 => ?_)
 refine ok_seq ?_
 refine sS Tryz.f97 3 [2, 6, 25, 26, 27] [] (fun _ => [(vs g 2 2), (vi 2), (vi 0)]) (fun _ => []) (cR [[], [], []] <| cN) (fun _ => ?_)
 refine ok_block ?_
 refine ok_rounds 3 ?_
 refine okr_succ ?_
 refine sS Tryz.f97 1 [2, 6, 25, 26, 27, 28] [] (fun _ => [(.bool true)]) (fun _ => []) (cR [[]] <| cN) (fun _ => ?_)
 refine ok_seq ?_
 refine oY ?_
 refine ok_skip ?_
 refine mt_then ?_
 refine ok_seq ?_
 refine ok_block ?_
 refine sS Tryz.f97 3 [2, 6, 8, 25, 26, 27, 28, 29, 30] [] (fun _ => [(pt g), (.slice a0 (B0).length c0), (.slice a0 (B0).length c0)]) (fun _ => []) (cR [[]] <| cX (qF (v := fun ρ => (.slice a0 (B0).length c0)) (fun _ _ _ hG => ld_blk (off := 0) Tryz.isAgg33 (hG.facts0.now.1) (rfl))) <| cR [[]] <| cN) (fun _ => ?_)
 refine rSf Tryz.f97 4 [2, 6, 8, 25, 26, 27, 28, 29, 30, 31, 32, 33] [] (fun ρ => [(vs (nb ρ15 1) (([] : List UInt8)).length (nb2 ρ15 1)), (.slice a0 (B0).length c0), (vs (nb ρ 2) (([] : List UInt8) ++ B0).length (nb2 ρ 2)), (vs (nb ρ 2) (([] : List UInt8) ++ B0).length (nb2 ρ 2))]) (fun ρ => [(2, (pwt 0 (nb ρ 2) (cL (oc ρ 2) 5)))]) (fun ρ => [(2, fun w => Ap (oc ρ 2) (([] : List UInt8) ++ B0) (nb2 ρ 2))]) (fun _ => (fun w => Kb w g #[(.slice a0 (B0).length c0), (.slice a1 (B1).length c1)] ∧ Bs w a0 c0 B0 ∧ Bs w a1 c1 B1 ∧ True)) (fun ρ => Ap (oc ρ 2) (([] : List UInt8) ++ B0) (nb2 ρ 2)) (fun _ _ hF hf => ⟨hF, hf 2⟩) (cR [[], []] <| cX (qM 0 (fun _ _ _ hG hg => app_any (ty := 33) (g := nb ρ15 1) (C := (zB (nb2 ρ15 1))) (c := nb2 ρ15 1) (xs := ([] : List UInt8)) Tryz.underlying33 u8i (Ap.mk' (Hd.nil _) (Nat.zero_le _) (Nat.zero_le _) (zB_size _)) (Bs.src (tx := 33) Tryz.underlying33 hG.facts0.now.2.1) ((by simp only [List.length_nil]; have := hl; omega)) hg)) <| cR [[]] <| cN) (fun ρ19 ap19_2 => ?_)
 refine mt_block_n ?_
 refine mt_then ?_
 refine rS Tryz.f97 2 [2, 6, 8, 25, 26, 27, 28, 29, 30, 31, 32, 33, 34] [] (fun _ => [(vi 1), (vi 1)]) (fun _ => []) (cR [[], []] <| cN) (fun _ => ?_)
 refine mt_rounds ?_
 refine okr_succ ?_
 refine sS Tryz.f97 1 [2, 6, 8, 25, 26, 27, 28, 29, 30, 31, 32, 33, 34] [] (fun _ => [(.bool true)]) (fun _ => []) (cR [[]] <| cN) (fun _ => ?_)
 refine dRs [(2, (.slice none 0 0)), (6, (vs (nb ρ19 2) (([] : List UInt8) ++ B0).length (nb2 ρ19 2))), (8, (.slice a0 (B0).length c0)), (25, (vs g 2 2)), (26, (vi 2)), (27, (vi 1)), (28, (.bool true)), (29, (pt g)), (30, (.slice a0 (B0).length c0)), (31, (vs (nb ρ15 1) (([] : List UInt8)).length (nb2 ρ15 1))), (32, (.slice a0 (B0).length c0)), (33, (vs (nb ρ19 2) (([] : List UInt8) ++ B0).length (nb2 ρ19 2))), (34, (vi 1))] [(nb ρ19 2, (cL (oc ρ19 2) 5))] ?_
 refine ok_seq ?_
 refine oY ?_
 refine ok_skip ?_
 refine mt_then ?_
 refine ok_seq ?_
 refine ok_block ?_
 refine sS Tryz.f97 3 [2, 6, 8, 25, 26, 27, 28, 29, 30, 31, 32, 33, 34] [] (fun _ => [(.pointer (some ⟨g, 1, none⟩)), (.slice a1 (B1).length c1), (.slice a1 (B1).length c1)]) (fun _ => []) (cR [[]] <| cX (qF (v := fun ρ => (.slice a1 (B1).length c1)) (fun _ _ _ hG => ld_blk (off := 1) Tryz.isAgg33 (hG.facts0.now.1) (rfl))) <| cR [[]] <| cN) (fun _ => ?_)
 refine rSf Tryz.f97 4 [2, 6, 8, 25, 26, 27, 28, 29, 30, 31, 32, 33, 34] [] (fun ρ => [(vs (nb ρ19 2) (([] : List UInt8) ++ B0).length (nb2 ρ19 2)), (.slice a1 (B1).length c1), (vs (nb ρ 2) ((([] : List UInt8) ++ B0) ++ B1).length (nb2 ρ 2)), (vs (nb ρ 2) ((([] : List UInt8) ++ B0) ++ B1).length (nb2 ρ 2))]) (fun ρ => [(2, (pwt 0 (nb ρ 2) (cL (oc ρ 2) 5)))]) (fun ρ => [(2, fun w => Ap (oc ρ 2) ((([] : List UInt8) ++ B0) ++ B1) (nb2 ρ 2))]) (fun _ => (fun w => Kb w g #[(.slice a0 (B0).length c0), (.slice a1 (B1).length c1)] ∧ Bs w a0 c0 B0 ∧ Bs w a1 c1 B1 ∧ True)) (fun ρ => Ap (oc ρ 2) ((([] : List UInt8) ++ B0) ++ B1) (nb2 ρ 2)) (fun _ _ hF hf => ⟨hF, hf 2⟩) (cR [[], []] <| cX (qM 0 (fun _ _ _ hG hg => app_any (ty := 33) (g := nb ρ19 2) (C := (oc ρ19 2)) (c := nb2 ρ19 2) (xs := ([] : List UInt8) ++ B0) Tryz.underlying33 u8i (Ap.mk' ap19_2.hd ap19_2.le ap19_2.max ap19_2.size) (Bs.src (tx := 33) Tryz.underlying33 hG.facts0.now.2.2.1) ((by simp only [List.length_append, List.length_nil]; have := hl; omega)) hg)) <| cR [[]] <| cN) (fun ρ23 ap23_2 => ?_)
 refine mt_block_n ?_
 refine mt_then ?_
 refine rS Tryz.f97 2 [2, 6, 8, 25, 26, 27, 28, 29, 30, 31, 32, 33, 34] [] (fun _ => [(vi 2), (vi 2)]) (fun _ => []) (cR [[], []] <| cN) (fun _ => ?_)
 refine mt_rounds ?_
 refine okr_succ ?_
 refine sS Tryz.f97 1 [2, 6, 8, 25, 26, 27, 28, 29, 30, 31, 32, 33, 34] [] (fun _ => [(.bool false)]) (fun _ => []) (cR [[]] <| cN) (fun _ => ?_)
 refine ok_seq ?_
 refine oN ?_
 refine ok_exit ?_
 refine mt_then_e ?_
 refine mt_then_e ?_
 refine mt_block_h ?_
 refine mt_then ?_
 refine sS Tryz.f97 2 [2] [] (fun _ => [(vs (nb ρ23 2) ((([] : List UInt8) ++ B0) ++ B1).length (nb2 ρ23 2)), (vs (nb ρ23 2) ((([] : List UInt8) ++ B0) ++ B1).length (nb2 ρ23 2))]) (fun _ => []) (cR [[], []] <| cN) (fun _ => ?_)
 refine ok_ret ?_
 refine mD [(2, (vs (nb ρ23 2) ((([] : List UInt8) ++ B0) ++ B1).length (nb2 ρ23 2)))] [(nb ρ23 2, (cL (oc ρ23 2) 5))] ?_
 exact mR (v := (vs (nb ρ23 2) ((([] : List UInt8) ++ B0) ++ B1).length (nb2 ρ23 2))) (fun _ hS => ⟨(some ⟨nb ρ23 2, 0, none⟩), nb2 ρ23 2, congrArg Ending.returned (by rw [List.nil_append]), hS.bel, fs_eq ((by rw [List.nil_append])) (hS.fresh (.head _) ap23_2.hd ap23_2.le ap23_2.max)⟩)
theorem extend_any (a : Option Addr) (c : Nat) (B : List UInt8) (a2 : Option Addr) (c2 : Nat) (S : List UInt8) (hl : B.length + S.length ≤ 140737488351232) (w0 : World) (hf0 : Bs w0 a c B) (hf1 : Bs w0 a2 c2 S) : Calls Tryz.prog 122 #[(.slice a (B).length c), (.slice a2 (S).length c2)] w0 (fun ε w' => ∃ α κ, ε = .returned (.slice α (B ++ S).length κ) ∧ Below w0.heap.size w0 w' ∧ Fs w0 w' α κ (B ++ S)) := by
 refine Calls.of_ok (n := 18) (F := (fun w => Bs w a c B ∧ Bs w a2 c2 S ∧ True)) Tryz.func122 rfl rfl rfl (by simp) (hf0.pers0.and (hf1.pers0.and persT)) ?_
 refine sS Tryz.f122 1 [0, 1, 4] [] (fun _ => [(.slice none 0 0)]) (fun _ => []) (cR [[]] <| cN) (fun _ => ?_)
 refine sS Tryz.f122 7 [0, 1, 4, 5] [] (fun ρ => [(.slice a (B).length c), (vn (B).length), (.slice a2 (S).length c2), (vn (S).length), (vn (((B).length) + ((S).length))), (vs (nb ρ 5) (([] : List UInt8)).length (((B).length) + ((S).length))), (vs (nb ρ 5) (([] : List UInt8)).length (((B).length) + ((S).length)))]) (fun ρ => [(5, (nw ρ 5 (cL (zB (((B).length) + ((S).length))) 5)))]) (cR [[], [], [], []] <| cA (v := fun ρ => (vi (IntKind.i64.wrap ((((B).length : Nat) : Int) + (((S).length : Nat) : Int))))) (fun _ => (vn (((B).length) + ((S).length)))) (fun _ => congrArg (Value.int .i64) (wrap_addN ((B).length) ((S).length) (by have := hl; omega))) <| cX (o_new1 _ (fun _ => do pure (Next.value (← Instr.makeSlice 33 (vi 0) (vn (((B).length) + ((S).length)))))) (fun _ ζ => (vs (ζ.headD 0) (([] : List UInt8)).length (((B).length) + ((S).length)))) (fun _ _ => (cL (zB (((B).length) + ((S).length))) 5)) (fun _ _ => (by kernel_rfl)) (fun _ => (by kernel_rfl)) (fun _ _ => trivial) (fun _ _ w _ => make_rowL Tryz.underlying33 u8i (([] : List UInt8)) (rfl) (rfl) (Nat.zero_le _) hl w)) <| cR [[]] <| cN) (fun ρ2 => ?_)
 refine sS Tryz.f122 4 [1, 4, 5] [] (fun _ => [(vs (nb ρ2 5) (([] : List UInt8)).length (((B).length) + ((S).length))), (.slice a (B).length c), (vs (nb ρ2 5) (([] : List UInt8) ++ B).length (((B).length) + ((S).length))), (vs (nb ρ2 5) (([] : List UInt8) ++ B).length (((B).length) + ((S).length)))]) (fun _ => [(2, (pwt 0 (nb ρ2 5) (cL (inpl (zB (((B).length) + ((S).length))) (([] : List UInt8)).length (bs B)) 5)))]) (cR [[], []] <| cX (o_put1 _ 0 (fun _ => do pure (Next.value (← Builtin.append_ #[33, 33] 33 #[(vs (nb ρ2 5) (([] : List UInt8)).length (((B).length) + ((S).length))), (.slice a (B).length c)]))) (fun _ => nb ρ2 5) (fun _ => (cL (zB (((B).length) + ((S).length))) 5)) (fun _ => (cL (inpl (zB (((B).length) + ((S).length))) (([] : List UInt8)).length (bs B)) 5)) (fun _ => (vs (nb ρ2 5) (([] : List UInt8) ++ B).length (((B).length) + ((S).length)))) (fun _ => (by kernel_rfl)) (fun _ => (by kernel_rfl)) (fun _ => (by kernel_rfl)) (fun _ => (by kernel_rfl)) (fun _ _ => trivial) (fun _ _ _ hG hg => app_roomL Tryz.underlying33 u8i hg (Bs.src (tx := 33) Tryz.underlying33 hG.facts0.now.1) (zB_size _) ((by simp only [List.length_nil]; omega)))) <| cR [[]] <| cN) (fun _ => ?_)
 refine sS Tryz.f122 4 [4] [] (fun _ => [(vs (nb ρ2 5) (([] : List UInt8) ++ B).length (((B).length) + ((S).length))), (.slice a2 (S).length c2), (vs (nb ρ2 5) ((([] : List UInt8) ++ B) ++ S).length (((B).length) + ((S).length))), (vs (nb ρ2 5) ((([] : List UInt8) ++ B) ++ S).length (((B).length) + ((S).length)))]) (fun _ => [(2, (pwt 0 (nb ρ2 5) (cL (inpl (inpl (zB (((B).length) + ((S).length))) (([] : List UInt8)).length (bs B)) (([] : List UInt8) ++ B).length (bs S)) 5)))]) (cR [[], []] <| cX (o_put1 _ 0 (fun _ => do pure (Next.value (← Builtin.append_ #[33, 33] 33 #[(vs (nb ρ2 5) (([] : List UInt8) ++ B).length (((B).length) + ((S).length))), (.slice a2 (S).length c2)]))) (fun _ => nb ρ2 5) (fun _ => (cL (inpl (zB (((B).length) + ((S).length))) (([] : List UInt8)).length (bs B)) 5)) (fun _ => (cL (inpl (inpl (zB (((B).length) + ((S).length))) (([] : List UInt8)).length (bs B)) (([] : List UInt8) ++ B).length (bs S)) 5)) (fun _ => (vs (nb ρ2 5) ((([] : List UInt8) ++ B) ++ S).length (((B).length) + ((S).length)))) (fun _ => (by kernel_rfl)) (fun _ => (by kernel_rfl)) (fun _ => (by kernel_rfl)) (fun _ => (by kernel_rfl)) (fun _ _ => trivial) (fun _ _ _ hG hg => app_roomL Tryz.underlying33 u8i hg (Bs.src (tx := 33) Tryz.underlying33 hG.facts0.now.2.1) ((inpl_size _ _ _ (room_le (zB_size _) ((by simp only [List.length_nil]; omega)))).trans (zB_size _)) ((Nat.le_refl _)))) <| cR [[]] <| cN) (fun _ => ?_)
 refine ok_ret ?_
 refine mD [(4, (vs (nb ρ2 5) ((([] : List UInt8) ++ B) ++ S).length (((B).length) + ((S).length))))] [(nb ρ2 5, (cL (inpl (inpl (zB (((B).length) + ((S).length))) (([] : List UInt8)).length (bs B)) (([] : List UInt8) ++ B).length (bs S)) 5))] ?_
 exact mR (v := (vs (nb ρ2 5) ((([] : List UInt8) ++ B) ++ S).length (((B).length) + ((S).length)))) (fun _ hS => ⟨(some ⟨nb ρ2 5, 0, none⟩), ((B).length) + ((S).length), congrArg Ending.returned (rfl), hS.bel, fs_eq (rfl) (hS.fresh (.head _) (Hd.inpl (Hd.inpl (Hd.nil _) rfl) rfl) (len_app ((Nat.le_refl _))) (len_app (hl)))⟩)
theorem lowest_any (n : Nat) (m : Nat) (hn : n < 18446744073709551616) (hm : m ≤ 8) (w0 : World) : Calls Tryz.prog 123 #[(.int .u64 ((n : Nat) : Int)), (vn m)] w0 (fun ε w' => ∃ α κ, ε = .returned (.slice α (leB n m).length κ) ∧ Below w0.heap.size w0 w' ∧ Fs w0 w' α κ (leB n m)) := by
 refine Calls.of_ok (n := 23) (F := (fun _ => True)) Tryz.func123 rfl rfl rfl (by simp) (persTrue (fun _ => trivial)) ?_
 refine sS Tryz.f123 1 [0, 1, 4] [] (fun _ => [(.slice none 0 0)]) (fun _ => []) (cR [[]] <| cN) (fun _ => ?_)
 refine sS Tryz.f123 3 [0, 1, 4, 5] [] (fun ρ => [(vn m), (vs (nb ρ 1) (List.replicate m (0 : UInt8)).length m), (vs (nb ρ 1) (List.replicate m (0 : UInt8)).length m)]) (fun ρ => [(1, (nw ρ 1 (cL (zB m) 5)))]) (cR [[]] <| cX (o_new1 _ (fun _ => do pure (Next.value (← Instr.makeSlice 33 (vn m) (vn m)))) (fun _ ζ => (vs (ζ.headD 0) (List.replicate m (0 : UInt8)).length m)) (fun _ _ => (cL (zB m) 5)) (fun _ _ => (by kernel_rfl)) (fun _ => (by kernel_rfl)) (fun _ _ => trivial) (fun _ _ w _ => make_rowL Tryz.underlying33 u8i (List.replicate m (0 : UInt8)) ((rfl).trans (by rw [List.length_replicate])) (rfl) (by rw [List.length_replicate]; exact Nat.le_refl _) (by have := hm; omega) w)) <| cR [[]] <| cN) (fun ρ2 => ?_)
 refine ok_seq ?_
 refine sS Tryz.f123 2 [0, 4, 5, 9, 10] [] (fun _ => [(vn m), (vi 0)]) (fun _ => []) (cR [[], []] <| cN) (fun _ => ?_)
 refine ok_block ?_
 refine oL (σ := Nat) (fun i => [(0, (.int .u64 ((n : Nat) : Int))), (4, (.slice none 0 0)), (5, (vs (nb ρ2 1) (List.replicate m (0 : UInt8)).length m)), (9, (vn m)), (10, (vn i))]) (fun i => [(nb ρ2 1, (cL (fillC n m i) 5))]) (fun i => m - i)
   (fun i => (i ≤ m)) 0 (Nat.zero_le m) [] ?_
 rintro i hi
 change Ok Tryz.prog _ _ 23 [(0, (.int .u64 ((n : Nat) : Int))), (4, (.slice none 0 0)), (5, (vs (nb ρ2 1) (List.replicate m (0 : UInt8)).length m)), (9, (vn m)), (10, (vn i))] _ [(nb ρ2 1, (cL (fillC n m i) 5))] (fun _ => True)
 refine sS Tryz.f123 1 [0, 4, 5, 9, 10, 11] [] (fun _ => [(.bool (decide (((i : Nat) : Int) < ((m : Nat) : Int))))]) (fun _ => []) (cR [[]] <| cN) (fun _ => ?_)
 refine ok_seq ?_
 refine oC (decide (((i : Nat) : Int) < ((m : Nat) : Int))) (fun hb1 => ?_) (fun hb1 => ?_)
 ·
  rw [hb1]
  refine ok_skip ?_
  refine mt_then ?_
  refine ok_seq ?_
  refine ok_block ?_
  refine sS Tryz.f123 2 [0, 4, 5, 6, 9, 10] [] (fun _ => [(vn i), (vn i)]) (fun _ => []) (cR [[], []] <| cN) (fun _ => ?_)
  refine rS Tryz.f123 9 [0, 4, 5, 9, 10] [] (fun _ => [(vs (nb ρ2 1) (List.replicate m (0 : UInt8)).length m), (vn i), (.int .u64 ((n : Nat) : Int)), (vn i), (vn (8 * i)), (.int .u64 ((n / 2 ^ (8 * i) : Nat) : Int)), (.int .u8 ((n / 256 ^ i % 256 : Nat) : Int)), (.pointer (some ⟨nb ρ2 1, i, none⟩)), undef]) (fun _ => [(8, (pwt 0 (nb ρ2 1) (cL (fillC n m (i + 1)) 5)))]) (cR [[], [], [], []] <| cA (v := fun ρ => (vi (IntKind.i64.wrap (8 * ((i : Nat) : Int))))) (fun _ => (vn (8 * i))) (fun _ => congrArg (Value.int .i64) (wrap_mulN 8 i (by have := yT hb1; have := hm; have := List.length_replicate (n := m) (a := (0 : UInt8)); have := hi; omega))) <| cB (a := fun ρ => (.int .u64 ((n : Nat) : Int))) (b := fun ρ => (vn (8 * i))) (v := fun ρ => (.int .u64 ((n / 2 ^ (8 * i) : Nat) : Int))) .shr 37 (fun _ w => run_shrU (k := .u64) hn w) <| cA (fun _ => (.int .u8 ((n / 256 ^ i % 256 : Nat) : Int))) (fun _ => congrArg (Value.int .u8) (low_byte n i)) <| cX (qS (fun _ w => idx_row (g := nb ρ2 1) (c := m) (k := .i64) Tryz.underlying33 u8i ((show ((i : Nat) : Int) = ((i : Nat) : Int) ∧ i < (List.replicate m (0 : UInt8)).length from ⟨rfl, (by rw [List.length_replicate]; have := yT hb1; have := hm; have := List.length_replicate (n := m) (a := (0 : UInt8)); have := hi; omega)⟩)).1 ((show ((i : Nat) : Int) = ((i : Nat) : Int) ∧ i < (List.replicate m (0 : UInt8)).length from ⟨rfl, (by rw [List.length_replicate]; have := yT hb1; have := hm; have := List.length_replicate (n := m) (a := (0 : UInt8)); have := hi; omega)⟩)).2 w)) <| cX (o_st _ 0 5 (fun _ => nb ρ2 1) (fun _ => i) (fun _ => (fillC n m i)) (fun _ => (fillC n m (i + 1))) 5 (fun _ => (.int .u8 ((n / 256 ^ i % 256 : Nat) : Int))) (fun _ => by kernel_rfl) Tryz.sizeOf5 (fun _ => rfl) (fun _ => (by rw [fill_size hi]; have := yT hb1; have := hm; have := List.length_replicate (n := m) (a := (0 : UInt8)); have := hi; omega)) (fun _ => (fill_set (by have := yT hb1; have := hm; have := List.length_replicate (n := m) (a := (0 : UInt8)); have := hi; omega)))) <| cN) (fun _ => ?_)
  refine mt_block_n ?_
  refine mt_then ?_
  refine rS Tryz.f123 2 [0, 4, 5, 9, 10] [] (fun _ => [(vn (i + 1)), (vn (i + 1))]) (fun _ => []) (cA (v := fun ρ => (vi (IntKind.i64.wrap (((i : Nat) : Int) + 1)))) (fun _ => (vn (i + 1))) (fun _ => congrArg (Value.int .i64) (wrap_addN i 1 (by have := yT hb1; have := hm; have := List.length_replicate (n := m) (a := (0 : UInt8)); have := hi; omega))) <| cR [[]] <| cN) (fun _ => ?_)
  exact mN (i + 1) (by show m - (i + 1) < m - i; have := yT hb1; have := hm; have := List.length_replicate (n := m) (a := (0 : UInt8)); have := hi; omega) (by show i + 1 ≤ m; have := yT hb1; have := hm; have := List.length_replicate (n := m) (a := (0 : UInt8)); have := hi; omega) []
 ·
  rw [hb1]
  refine ok_exit ?_
  refine mt_then_e ?_
  refine mt_then_e ?_
  refine mt_block_h ?_
  refine mt_then ?_
  refine sS Tryz.f123 2 [4] [] (fun _ => [(vs (nb ρ2 1) (List.replicate m (0 : UInt8)).length m), (vs (nb ρ2 1) (List.replicate m (0 : UInt8)).length m)]) (fun _ => []) (cR [[], []] <| cN) (fun _ => ?_)
  refine ok_ret ?_
  refine mD [(4, (vs (nb ρ2 1) (List.replicate m (0 : UInt8)).length m))] [(nb ρ2 1, (cL (fillC n m i) 5))] ?_
  exact mR (v := (vs (nb ρ2 1) (List.replicate m (0 : UInt8)).length m)) (fun _ hS => ⟨(some ⟨nb ρ2 1, 0, none⟩), m, congrArg Ending.returned (by rw [List.length_replicate, leB_length]), hS.bel, fs_eq (fill_end (by have := yF hb1; have := hm; have := List.length_replicate (n := m) (a := (0 : UInt8)); have := hi; omega)) (hS.fresh (.head _) (Hd.all _) (Nat.le_of_eq (fill_len hi)) (by rw [fill_len hi]; have := hm; omega))⟩)
theorem append32_any (a : Option Addr) (c : Nat) (B : List UInt8) (n : Nat) (hn : n < 4294967296) (hl : B.length + 8 ≤ 140737488351232) (w0 : World) (hf0 : Bs w0 a c B) : Calls Tryz.prog 96 #[(.slice a (B).length c), (.int .u32 ((n : Nat) : Int))] w0 (fun ε w' => ∃ α κ, ε = .returned (.slice α (B ++ leB n 4).length κ) ∧ Below w0.heap.size w0 w' ∧ Fs w0 w' α κ (B ++ leB n 4)) := by
 refine Calls.of_ok (n := 10) (F := (fun w => Bs w a c B ∧ True)) Tryz.func96 rfl rfl rfl (by simp) (hf0.pers0.and persT) ?_
 refine sS Tryz.f96 1 [0, 1, 4] [] (fun _ => [(.slice none 0 0)]) (fun _ => []) (cR [[]] <| cN) (fun _ => ?_)
 refine sSf Tryz.f96 6 [4] [] (fun ρ => [(.slice a (B).length c), (.int .u32 ((n : Nat) : Int)), (.int .u64 ((n : Nat) : Int)), (.slice (oa ρ 3) (leB n 4).length (nb ρ 3)), (.slice (oa ρ 4) (B ++ (leB n 4)).length (nb ρ 4)), (.slice (oa ρ 4) (B ++ (leB n 4)).length (nb ρ 4))]) (fun _ => []) (fun ρ => [(3, fun w => Fs w0 w (oa ρ 3) (nb ρ 3) (leB n 4)), (4, fun w => Fs w0 w (oa ρ 4) (nb ρ 4) (B ++ (leB n 4)))]) (fun ρ => (fun w => Bs w a c B ∧ Fs w0 w (oa ρ 3) (nb ρ 3) (leB n 4) ∧ Fs w0 w (oa ρ 4) (nb ρ 4) (B ++ (leB n 4)) ∧ True)) (fun _ => True) (fun _ _ hF hf => ⟨⟨hF.1, hf 3, hf 4, trivial⟩, trivial⟩) (cR [[], []] <| cA (v := fun ρ => (.int .u64 (IntKind.u64.wrap (((n : Nat) : Int))))) (fun _ => (.int .u64 ((n : Nat) : Int))) (fun _ => congrArg (Value.int .u64) (u64N (by have := hn; have := hl; omega))) <| cX (qB (fun _ _ w _ => lowest_any n 4 (by have := hn; have := hl; omega) (by have := hn; have := hl; omega) w )) <| cX (qB (fun ρ _ w hG => extend_any a c B (oa ρ 3) (nb ρ 3) (leB n 4) (by simp only [leB_length]; have := hn; have := hl; omega) w hG.facts0.now.1 ((show Fs w0 w (oa ρ 3) (nb ρ 3) (leB n 4) from (hG.facts 3 rfl).now).1))) <| cR [[]] <| cN) (fun ρ2 _ => ?_)
 refine ok_ret ?_
 refine mD [(4, (.slice (oa ρ2 4) (B ++ (leB n 4)).length (nb ρ2 4)))] [] ?_
 exact mR (v := (.slice (oa ρ2 4) (B ++ (leB n 4)).length (nb ρ2 4))) (fun _ hS => ⟨oa ρ2 4, nb ρ2 4, congrArg Ending.returned (rfl), hS.bel, fs_eq (rfl) hS.facts.now.2.2.1⟩)
theorem twk_any (k : Ky) (i : Nat) (_hk : k.Ok) (hi : i < 4294967296) (w0 : World) (hf0 : KbK w0) (hf1 : KbI w0) : Calls Tryz.prog 62 #[(.agg (kY k)), (.int .u32 ((i : Nat) : Int))] w0 (fun ε w' => ε = .returned (.agg (hB (twk k i))) ∧ Below w0.heap.size w0 w') := by
 refine Calls.of_ok (n := 24) (F := (fun w => KbK w ∧ KbI w ∧ True)) Tryz.func62 rfl rfl rfl (by simp) (hf0.pers0.and (hf1.pers0.and persT)) ?_
 refine sS Tryz.f62 2 [1, 2, 4] [] (fun ρ => [(pt (nb ρ 0)), (pt (nb ρ 1))]) (fun ρ => [(0, (nw ρ 0 (cL (kY k) 48))), (1, (nw ρ 1 (cL (hB 0) 43)))]) (cR [[], []] <| cN) (fun ρ1 => ?_)
 refine sS Tryz.f62 6 [1, 2, 4, 5, 6] [] (fun ρ => [(.pointer (some ⟨nb ρ1 0, 4, none⟩)), (U k.p), (.agg (hB k.p)), (pt (nb ρ 3)), (.string ⟨#[108, 105, 103, 104, 116, 99, 108, 105, 101, 110, 116, 47, 115, 111, 102, 116]⟩), undef]) (fun ρ => [(3, (nw ρ 3 (cL (hB 0) 43))), (5, (pwt 26 (nb ρ 3) (cL (hB k.p) 43)))]) (cR [[], [0]] <| cC (fun _ w => bytes_any k.p w) <| cR [[], [], [26]] <| cN) (fun ρ2 => ?_)
 refine ok_seq ?_
 refine sS Tryz.f62 2 [1, 2, 4, 5, 6, 11] [] (fun _ => [(.int .u32 ((i : Nat) : Int)), (.bool (decide (2147483648 ≤ ((i : Nat) : Int))))]) (fun _ => []) (cR [[], []] <| cN) (fun _ => ?_)
 refine oC (decide (2147483648 ≤ ((i : Nat) : Int))) (fun hb1 => ?_) (fun hb1 => ?_)
 ·
  rw [hb1]
  refine rS Tryz.f62 5 [1, 2, 4, 5, 6] [] (fun _ => [(pt (nb ρ1 0)), (U k.s), (.agg (hB k.s)), (.string ⟨#[108, 105, 103, 104, 116, 99, 108, 105, 101, 110, 116, 47, 104, 97, 114, 100]⟩), undef]) (fun _ => [(4, (pwt 2 (nb ρ2 3) (cL (hB k.s) 43)))]) (cR [[], [0]] <| cC (fun _ w => bytes_any k.s w) <| cR [[], [2]] <| cN) (fun _ => ?_)
  refine mt_then ?_
  refine sDf Tryz.f62 [0, 0, 2, 0, 14, 30, 0, 126, 255, 511] 10 [4] [0, 1, 0, 0] (fun ρ => [(.string ⟨#[108, 105, 103, 104, 116, 99, 108, 105, 101, 110, 116, 47, 104, 97, 114, 100]⟩), (.pointer (some ⟨nb ρ1 0, 8, none⟩)), (.slice (some ⟨nb ρ1 0, 8, none⟩) (hL k.c).length 32), (vs (nb ρ2 3) (hL k.s).length 32), (vs (nb ρ 4) 2 2), (.slice (oa ρ 5) ((hL k.c) ++ (hL k.s)).length (nb ρ 5)), (.int .u32 ((i : Nat) : Int)), (.slice (oa ρ 7) (((hL k.c) ++ (hL k.s)) ++ leB i 4).length (nb ρ 7)), (.agg (hB (tagN tgH (((hL k.c) ++ (hL k.s)) ++ leB i 4)))), undef]) (fun ρ => [(4, (nw ρ 4 (cL #[(.slice (some ⟨nb ρ1 0, 8, none⟩) (hL k.c).length 32), (vs (nb ρ2 3) (hL k.s).length 32)] 33))), (9, (pwt 1 (nb ρ1 1) (cL (hB (tagN tgH (((hL k.c) ++ (hL k.s)) ++ leB i 4))) 43)))]) (fun ρ => [(5, fun w => Fs w0 w (oa ρ 5) (nb ρ 5) ((hL k.c) ++ (hL k.s))), (7, fun w => Fs w0 w (oa ρ 7) (nb ρ 7) (((hL k.c) ++ (hL k.s)) ++ leB i 4))]) (fun ρ => (fun w => KbK w ∧ KbI w ∧ Fs w0 w (oa ρ 5) (nb ρ 5) ((hL k.c) ++ (hL k.s)) ∧ Fs w0 w (oa ρ 7) (nb ρ 7) (((hL k.c) ++ (hL k.s)) ++ leB i 4) ∧ True)) (fun _ => True) (fun _ _ hF hf => ⟨⟨hF.1, hF.2.1, hf 5, hf 7, trivial⟩, trivial⟩) (cR [[], [], [], [], []] <| cX (qB (fun ρ _ w hG => concat2_any (nb ρ 4) (some ⟨nb ρ1 0, 8, none⟩) 32 (hL k.c) (some ⟨nb ρ2 3, 0, none⟩) 32 (hL k.s) (by simp only [hL_length]; omega) (by rw [hL_length]; decide) w (Kb.of_block (hG.kn (g := nb ρ 4) (o := (cL #[(.slice (some ⟨nb ρ1 0, 8, none⟩) (hL k.c).length 32), (vs (nb ρ2 3) (hL k.s).length 32)] 33)) 35)) (Bs.of_key (hG.kn (g := nb ρ1 0) (o := (cL (kY k) 48)) 0)) (Bs.of_hd (c := 32) (hG.kn (g := nb ρ2 3) (o := (cL (hB k.s) 43)) 2) (hd_hB _) (Nat.le_refl _) (Nat.le_of_ble_eq_true rfl)))) <| cR [[]] <| cX (qB (fun ρ _ w hG => append32_any (oa ρ 5) (nb ρ 5) ((hL k.c) ++ (hL k.s)) i (by have := yT hb1; have := hi; omega) (by simp only [List.length_append, hL_length]; have := yT hb1; have := hi; omega) w ((show Fs w0 w (oa ρ 5) (nb ρ 5) ((hL k.c) ++ (hL k.s)) from (hG.facts 5 rfl).now).1))) <| cX (qC (fun ρ _ w hG => tagged_any tgH (oa ρ 7) (nb ρ 7) (((hL k.c) ++ (hL k.s)) ++ leB i 4) (by decide) (by simp only [List.length_append, hL_length, leB_length]; omega) w ((show Fs w0 w (oa ρ 7) (nb ρ 7) (((hL k.c) ++ (hL k.s)) ++ leB i 4) from (hG.facts 7 rfl).now).1) hG.facts0.now.1 hG.facts0.now.2.1)) <| cR [[1]] <| cN) (fun _ _ => ?_)
  refine ok_ret ?_
  exact mR (v := (.agg (hB (tagN tgH (((hL k.c) ++ (hL k.s)) ++ leB i 4))))) (fun _ hS => ⟨congrArg Ending.returned (congrArg (fun z => Value.agg (hB z)) (twk_1 hb1)), hS.bel⟩)
 ·
  rw [hb1]
  refine ok_skip ?_
  refine mt_then ?_
  refine sDf Tryz.f62 [0, 0, 2, 0, 14, 30, 0, 126, 255, 511] 10 [4] [0, 1, 0, 0] (fun ρ => [(.string ⟨#[108, 105, 103, 104, 116, 99, 108, 105, 101, 110, 116, 47, 115, 111, 102, 116]⟩), (.pointer (some ⟨nb ρ1 0, 8, none⟩)), (.slice (some ⟨nb ρ1 0, 8, none⟩) (hL k.c).length 32), (vs (nb ρ2 3) (hL k.p).length 32), (vs (nb ρ 4) 2 2), (.slice (oa ρ 5) ((hL k.c) ++ (hL k.p)).length (nb ρ 5)), (.int .u32 ((i : Nat) : Int)), (.slice (oa ρ 7) (((hL k.c) ++ (hL k.p)) ++ leB i 4).length (nb ρ 7)), (.agg (hB (tagN tgS (((hL k.c) ++ (hL k.p)) ++ leB i 4)))), undef]) (fun ρ => [(4, (nw ρ 4 (cL #[(.slice (some ⟨nb ρ1 0, 8, none⟩) (hL k.c).length 32), (vs (nb ρ2 3) (hL k.p).length 32)] 33))), (9, (pwt 1 (nb ρ1 1) (cL (hB (tagN tgS (((hL k.c) ++ (hL k.p)) ++ leB i 4))) 43)))]) (fun ρ => [(5, fun w => Fs w0 w (oa ρ 5) (nb ρ 5) ((hL k.c) ++ (hL k.p))), (7, fun w => Fs w0 w (oa ρ 7) (nb ρ 7) (((hL k.c) ++ (hL k.p)) ++ leB i 4))]) (fun ρ => (fun w => KbK w ∧ KbI w ∧ Fs w0 w (oa ρ 5) (nb ρ 5) ((hL k.c) ++ (hL k.p)) ∧ Fs w0 w (oa ρ 7) (nb ρ 7) (((hL k.c) ++ (hL k.p)) ++ leB i 4) ∧ True)) (fun _ => True) (fun _ _ hF hf => ⟨⟨hF.1, hF.2.1, hf 5, hf 7, trivial⟩, trivial⟩) (cR [[], [], [], [], []] <| cX (qB (fun ρ _ w hG => concat2_any (nb ρ 4) (some ⟨nb ρ1 0, 8, none⟩) 32 (hL k.c) (some ⟨nb ρ2 3, 0, none⟩) 32 (hL k.p) (by simp only [hL_length]; omega) (by rw [hL_length]; decide) w (Kb.of_block (hG.kn (g := nb ρ 4) (o := (cL #[(.slice (some ⟨nb ρ1 0, 8, none⟩) (hL k.c).length 32), (vs (nb ρ2 3) (hL k.p).length 32)] 33)) 35)) (Bs.of_key (hG.kn (g := nb ρ1 0) (o := (cL (kY k) 48)) 0)) (Bs.of_hd (c := 32) (hG.kn (g := nb ρ2 3) (o := (cL (hB k.p) 43)) 2) (hd_hB _) (Nat.le_refl _) (Nat.le_of_ble_eq_true rfl)))) <| cR [[]] <| cX (qB (fun ρ _ w hG => append32_any (oa ρ 5) (nb ρ 5) ((hL k.c) ++ (hL k.p)) i (by have := yF hb1; have := hi; omega) (by simp only [List.length_append, hL_length]; have := yF hb1; have := hi; omega) w ((show Fs w0 w (oa ρ 5) (nb ρ 5) ((hL k.c) ++ (hL k.p)) from (hG.facts 5 rfl).now).1))) <| cX (qC (fun ρ _ w hG => tagged_any tgS (oa ρ 7) (nb ρ 7) (((hL k.c) ++ (hL k.p)) ++ leB i 4) (by decide) (by simp only [List.length_append, hL_length, leB_length]; omega) w ((show Fs w0 w (oa ρ 7) (nb ρ 7) (((hL k.c) ++ (hL k.p)) ++ leB i 4) from (hG.facts 7 rfl).now).1) hG.facts0.now.1 hG.facts0.now.2.1)) <| cR [[1]] <| cN) (fun _ _ => ?_)
  refine ok_ret ?_
  exact mR (v := (.agg (hB (tagN tgS (((hL k.c) ++ (hL k.p)) ++ leB i 4))))) (fun _ hS => ⟨congrArg Ending.returned (congrArg (fun z => Value.agg (hB z)) (twk_0 hb1)), hS.bel⟩)
theorem child_any (k : Ky) (i : Nat) (hk : k.Ok) (hi : i < 4294967296) (w0 : World) (hf0 : KbK w0) (hf1 : KbI w0) : Calls Tryz.prog 36 #[(.agg (kY k)), (.int .u32 ((i : Nat) : Int))] w0 (fun ε w' => ε = .returned (.tuple #[(.agg (kY (chK k i))), (vi (chE k i))]) ∧ Below w0.heap.size w0 w') := by
 refine Calls.of_ok (n := 77) (F := (fun w => KbK w ∧ KbI w ∧ True)) Tryz.func36 rfl rfl rfl (by simp) (hf0.pers0.and (hf1.pers0.and persT)) ?_
 refine sS Tryz.f36 3 [1, 2, 4, 5] [] (fun ρ => [(pt (nb ρ 0)), (pt (nb ρ 1)), (vi 0)]) (fun ρ => [(0, (nw ρ 0 (cL (kY k) 48))), (1, (nw ρ 1 (cL (kC 0 0 0 0 0 0) 48)))]) (cR [[], [], []] <| cN) (fun ρ1 => ?_)
 refine sS Tryz.f36 5 [1, 2, 4, 5, 6] [] (fun _ => [(pt (nb ρ1 0)), (U k.s), (U 0), (.bool (!decide (k.s = 0))), (.bool (!decide (k.s = 0)))]) (fun _ => []) (cR [[], [0], []] <| cB (a := fun ρ => (U k.s)) (b := fun ρ => (U 0)) (v := fun ρ => (.bool (!decide (k.s = 0)))) .neq 39 (fun _ _ => neqU k.s 0 hk.s (by decide +kernel) _) <| cR [[]] <| cN) (fun _ => ?_)
 refine ok_seq ?_
 refine ok_block ?_
 refine sS Tryz.f36 4 [1, 2, 4, 5, 6, 14] [] (fun _ => [(.agg (kY k)), (.bool (sndB k)), (.bool (!(sndB k))), (.bool (!(sndB k)))]) (fun _ => []) (cR [[0]] <| cC (fun _ w => ksound_any k hk w) <| cR [[], []] <| cN) (fun _ => ?_)
 refine oC (!(sndB k)) (fun hb1 => ?_) (fun hb1 => ?_)
 ·
  rw [hb1]
  refine sS Tryz.f36 3 [1, 2, 4, 5, 6] [] (fun _ => [(.agg (kC 0 0 0 0 0 0)), undef, (vi 6)]) (fun _ => [(1, (pwt 1 (nb ρ1 1) (cL (kC 0 0 0 0 0 0) 48)))]) (cR [[], [1], []] <| cN) (fun _ => ?_)
  refine ok_ret ?_
  refine mt_block_r ?_
  refine mt_then_r ?_
  exact mR (v := (.tuple #[(.agg (kC 0 0 0 0 0 0)), (vi 6)])) (ps := [1,1,1,1,1,1,1,1,1,1,1,1,1,1,1,1,1,1,1,1,1,1,1,1,1,1,1,1,1,1,1,1,1,1,1,1,1,1,1,1,1,1,1]) (fun _ hS => ⟨by rw [(ch_6 (not_t hb1)).1, (ch_6 (not_t hb1)).2]; rfl, hS.bel⟩)
 ·
  rw [hb1]
  refine sS Tryz.f36 4 [1, 2, 4, 5, 6, 19] [] (fun _ => [(.pointer (some ⟨nb ρ1 0, 40, none⟩)), (vi k.d), (.bool (k.d == 8)), (.bool (k.d == 8))]) (fun _ => []) (cR [[], [0], [], []] <| cN) (fun _ => ?_)
  refine oC (k.d == 8) (fun hb2 => ?_) (fun hb2 => ?_)
  ·
   rw [hb2]
   refine sS Tryz.f36 3 [1, 2, 4, 5, 6] [] (fun _ => [(.agg (kC 0 0 0 0 0 0)), undef, (vi 4)]) (fun _ => [(1, (pwt 1 (nb ρ1 1) (cL (kC 0 0 0 0 0 0) 48)))]) (cR [[], [1], []] <| cN) (fun _ => ?_)
   refine ok_ret ?_
   refine mt_block_r ?_
   refine mt_then_r ?_
   exact mR (v := (.tuple #[(.agg (kC 0 0 0 0 0 0)), (vi 4)])) (ps := [1,1,1,1,1,1,1,1,1,1,1,1,1,1,1,1,1,1,1,1,1,1,1,1,1,1,1,1,1,1,1,1,1,1,1,1,1,1,1,1,1,1,1]) (fun _ hS => ⟨by rw [(ch_4 (i := i) (not_f hb1) (eqI hb2)).1, (ch_4 (i := i) (not_f hb1) (eqI hb2)).2]; rfl, hS.bel⟩)
  ·
   rw [hb2]
   rcases Bool.eq_false_or_eq_true (decide (2147483648 ≤ ((i : Nat) : Int))) with hb3 | hb3
   ·
    refine sS Tryz.f36 7 [1, 2, 4, 5, 6, 24] [] (fun _ => [(.int .u32 ((i : Nat) : Int)), (.bool true), (.bool true), (.bool (!decide (k.s = 0))), (.bool (!(!decide (k.s = 0)))), (.bool (!(!decide (k.s = 0)))), (.bool (!(!decide (k.s = 0))))]) (fun _ => []) (cR [[]] <| cA (fun _ => (.bool true)) (fun _ => congrArg Value.bool hb3) <| cR [[], [], [], [], []] <| cN) (fun _ => ?_)
    refine oC (!(!decide (k.s = 0))) (fun hb4 => ?_) (fun hb4 => ?_)
    ·
     rw [hb4]
     refine sS Tryz.f36 3 [1, 2, 4, 5, 6] [] (fun _ => [(.agg (kC 0 0 0 0 0 0)), undef, (vi 250)]) (fun _ => [(1, (pwt 1 (nb ρ1 1) (cL (kC 0 0 0 0 0 0) 48)))]) (cR [[], [1], []] <| cN) (fun _ => ?_)
     refine ok_ret ?_
     refine mt_block_r ?_
     refine mt_then_r ?_
     exact mR (v := (.tuple #[(.agg (kC 0 0 0 0 0 0)), (vi 250)])) (ps := [1,1,1,1,1,1,1,1,1,1,1,1,1,1,1,1,1,1,1,1,1,1,1,1,1,1,1,1,1,1,1,1,1,1,1,1,1,1,1,1,1,1,1]) (fun _ hS => ⟨by rw [(ch_250 (not_f hb1) (neI hb2) (hd_t hb3) (yT (not_f (not_t hb4)))).1, (ch_250 (not_f hb1) (neI hb2) (hd_t hb3) (yT (not_f (not_t hb4)))).2]; rfl, hS.bel⟩)
    ·
     rw [hb4]
     refine ok_skip ?_
     refine mt_block_n ?_
     refine mt_then ?_
     refine sS Tryz.f36 5 [1, 2, 4, 5, 6, 7] [] (fun ρ => [(.agg (kY k)), (.int .u32 ((i : Nat) : Int)), (.agg (hB (twk k i))), (pt (nb ρ 3)), undef]) (fun ρ => [(3, (nw ρ 3 (cL (hB 0) 43))), (4, (pwt 26 (nb ρ 3) (cL (hB (twk k i)) 43)))]) (cR [[0], []] <| cX (qC (fun _ _ w hG => twk_any k i hk hi w hG.facts0.now.1 hG.facts0.now.2.1)) <| cR [[], [26]] <| cN) (fun ρ9 => ?_)
     refine sD Tryz.f36 [0, 1, 0, 7, 0, 16, 48, 0, 0, 271, 1023, 0, 4095] 13 [2, 4, 5, 6, 7, 8] [] (fun ρ => [(.pointer (some ⟨nb ρ1 0, 8, none⟩)), (.slice (some ⟨nb ρ1 0, 8, none⟩) (hL k.c).length 32), (vs (nb ρ9 3) (hL (twk k i)).length 32), (.agg (hB (hmN k.c (hL (twk k i))))), (.pointer (some ⟨nb ρ1 0, 40, none⟩)), (vi k.d), (vi (k.d + 1)), (.int .u32 ((i : Nat) : Int)), (.agg (kY k)), (.int .u32 ((prN k.p : Nat) : Int)), (.agg (kC 0 0 (hmN k.c (hL (twk k i))) (k.d + 1) ((i : Nat) : Int) ((prN k.p : Nat) : Int))), (pt (nb ρ 11)), undef]) (fun ρ => [(11, (nw ρ 11 (cL (kC 0 0 0 0 0 0) 48))), (12, (pwt 91 (nb ρ 11) (cL (kC 0 0 (hmN k.c (hL (twk k i))) (k.d + 1) ((i : Nat) : Int) ((prN k.p : Nat) : Int)) 48)))]) (cR [[], [], []] <| cX (qC (fun _ _ w hG => hmac_any (some ⟨nb ρ1 0, 8, none⟩) 32 k.c (some ⟨nb ρ9 3, 0, none⟩) 32 (hL (twk k i)) (by rw [hL_length]; decide) w (Bs.of_key (hG.kn (g := nb ρ1 0) (o := (cL (kY k) 48)) 0)) (Bs.of_hd (c := 32) (hG.kn (g := nb ρ9 3) (o := (cL (hB (twk k i)) 43)) 2) (hd_hB _) (Nat.le_refl _) (Nat.le_of_ble_eq_true rfl)) hG.facts0.now.1 hG.facts0.now.2.1)) <| cR [[], [0]] <| cA (v := fun ρ => (vi (IntKind.i64.wrap (k.d + 1)))) (fun _ => (vi (k.d + 1))) (fun _ => congrArg (Value.int .i64) (i64N (by have := snd_get (not_f hb1); omega))) <| cR [[], [0]] <| cX (qC (fun _ _ w hG => kprint_any k hk w hG.facts0.now.1 hG.facts0.now.2.1)) <| cR [[], [], [91]] <| cN) (fun ρ10 => ?_)
     refine dRs [(2, (pt (nb ρ1 0))), (4, (pt (nb ρ1 1))), (5, (vi 0)), (6, (.bool (!decide (k.s = 0)))), (7, (pt (nb ρ9 3))), (8, (pt (nb ρ10 11)))] [(nb ρ1 0, (cL (kY k) 48)), (nb ρ1 1, (cL (kC 0 0 0 0 0 0) 48)), (nb ρ9 3, (cL (hB (twk k i)) 43)), (nb ρ10 11, (cL (kC 0 0 (hmN k.c (hL (twk k i))) (k.d + 1) ((i : Nat) : Int) ((prN k.p : Nat) : Int)) 48))] ?_
     refine sS Tryz.f36 1 [2, 4, 5, 6, 7, 8, 9] [] (fun _ => [(vi 0)]) (fun _ => []) (cR [[]] <| cN) (fun _ => ?_)
     refine ok_seq ?_
     refine sS Tryz.f36 1 [2, 4, 5, 7, 8, 9, 46] [] (fun _ => [(.bool (!decide (k.s = 0)))]) (fun _ => []) (cR [[]] <| cN) (fun _ => ?_)
     refine oC (!decide (k.s = 0)) (fun hb5 => ?_) (fun hb5 => ?_)
     ·
      rw [hb5]
      refine sS Tryz.f36 10 [4, 5, 8, 9] [0, 1, 0, 1] (fun _ => [(pt (nb ρ1 0)), (U k.s), (.agg (hB (twk k i))), (.tuple #[(U (tsV k.s (twk k i))), (vi (tsE k.s (twk k i)))]), (.tuple #[(U (tsV k.s (twk k i))), (vi (tsE k.s (twk k i)))]), (U (tsV k.s (twk k i))), (vi (tsE k.s (twk k i))), (pt (nb ρ10 11)), undef, (vi (tsE k.s (twk k i)))]) (fun _ => [(8, (pwt 3 (nb ρ10 11) (cL (kC (tsV k.s (twk k i)) 0 (hmN k.c (hL (twk k i))) (k.d + 1) ((i : Nat) : Int) ((prN k.p : Nat) : Int)) 48)))]) (cR [[], [0], [2]] <| cC (f := 65) (args := fun ρ => #[(U k.s), (.agg (hB (twk k i)))]) (v := fun ρ => (.tuple #[(U (tsV k.s (twk k i))), (vi (tsE k.s (twk k i)))])) (fun _ w => (fun w => tweaksecret_any k.s (twk k i) hk.s (twk_lt _ _) w) w) <| cR [[], [], [], [], [3], []] <| cN) (fun _ => ?_)
      refine sS Tryz.f36 2 [4, 5, 8, 9, 56] [] (fun _ => [(vi (tsE k.s (twk k i))), (.bool ((tsE k.s (twk k i)) == 0))]) (fun _ => []) (cR [[], []] <| cN) (fun _ => ?_)
      refine oC ((tsE k.s (twk k i)) == 0) (fun hb6 => ?_) (fun hb6 => ?_)
      ·
       rw [hb6]
       refine rS Tryz.f36 9 [4, 5, 8, 9] [] (fun _ => [(pt (nb ρ10 11)), (U (tsV k.s (twk k i))), (.tuple #[(U (pubV (tsV k.s (twk k i)))), (vi (pubE (tsV k.s (twk k i))))]), (.tuple #[(U (pubV (tsV k.s (twk k i)))), (vi (pubE (tsV k.s (twk k i))))]), (U (pubV (tsV k.s (twk k i)))), (vi (pubE (tsV k.s (twk k i)))), (.pointer (some ⟨nb ρ10 11, 4, none⟩)), undef, (vi (pubE (tsV k.s (twk k i))))]) (fun _ => [(7, (pwt 1 (nb ρ10 11) (cL (kC (tsV k.s (twk k i)) (pubV (tsV k.s (twk k i))) (hmN k.c (hL (twk k i))) (k.d + 1) ((i : Nat) : Int) ((prN k.p : Nat) : Int)) 48)))]) (cR [[], [1]] <| cC (f := 61) (args := fun ρ => #[(U (tsV k.s (twk k i)))]) (v := fun ρ => (.tuple #[(U (pubV (tsV k.s (twk k i)))), (vi (pubE (tsV k.s (twk k i))))])) (fun _ w => (fun w => public_any (tsV k.s (twk k i)) (tsV_lt _ _) w) w) <| cR [[], [], [], [], [1], []] <| cN) (fun _ => ?_)
       refine mt_then ?_
       refine ok_seq ?_
       refine sS Tryz.f36 2 [4, 5, 8, 9, 73] [] (fun _ => [(vi (pubE (tsV k.s (twk k i)))), (.bool false)]) (fun _ => []) (cR [[]] <| cA (fun _ => (.bool false)) (fun _ => congrArg Value.bool (pub_ts (bnI hb6))) <| cN) (fun _ => ?_)
       refine oN ?_
       refine ok_skip ?_
       refine mt_then ?_
       refine sS Tryz.f36 3 [4, 5] [1, 0] (fun _ => [(.agg (kC (tsV k.s (twk k i)) (pubV (tsV k.s (twk k i))) (hmN k.c (hL (twk k i))) (k.d + 1) ((i : Nat) : Int) ((prN k.p : Nat) : Int))), undef, (vi 0)]) (fun _ => [(1, (pwt 0 (nb ρ1 1) (cL (kC (tsV k.s (twk k i)) (pubV (tsV k.s (twk k i))) (hmN k.c (hL (twk k i))) (k.d + 1) ((i : Nat) : Int) ((prN k.p : Nat) : Int)) 48)))]) (cR [[1], [0], []] <| cN) (fun _ => ?_)
       refine ok_ret ?_
       exact mR (v := (.tuple #[(.agg (kC (tsV k.s (twk k i)) (pubV (tsV k.s (twk k i))) (hmN k.c (hL (twk k i))) (k.d + 1) ((i : Nat) : Int) ((prN k.p : Nat) : Int))), (vi 0)])) (fun _ hS => ⟨by rw [(ch_s0 (not_f hb1) (neI hb2) (Or.inr (yF (not_t (not_f hb4)))) (yF (not_t (not_f hb4))) (eqI hb6)).1, (ch_s0 (not_f hb1) (neI hb2) (Or.inr (yF (not_t (not_f hb4)))) (yF (not_t (not_f hb4))) (eqI hb6)).2] <;> rfl, hS.bel⟩)
      ·
       rw [hb6]
       refine ok_skip ?_
       refine mt_then ?_
       refine ok_seq ?_
       refine sS Tryz.f36 2 [4, 5, 8, 9, 73] [] (fun _ => [(vi (tsE k.s (twk k i))), (.bool true)]) (fun _ => []) (cR [[]] <| cA (fun _ => (.bool true)) (fun _ => congrArg Value.bool (bn_n hb6)) <| cN) (fun _ => ?_)
       refine oY ?_
       refine sS Tryz.f36 4 [4, 5, 8] [] (fun _ => [(.agg (kC 0 0 0 0 0 0)), (vi (tsE k.s (twk k i))), undef, (vi (tsE k.s (twk k i)))]) (fun _ => [(2, (pwt 0 (nb ρ1 1) (cL (kC 0 0 0 0 0 0) 48)))]) (cR [[], [], [0], []] <| cN) (fun _ => ?_)
       refine ok_ret ?_
       refine mt_then_r ?_
       exact mR (v := (.tuple #[(.agg (kC 0 0 0 0 0 0)), (vi (tsE k.s (twk k i)))])) (fun _ hS => ⟨by rw [(ch_s1 (not_f hb1) (neI hb2) (Or.inr (yF (not_t (not_f hb4)))) (yF (not_t (not_f hb4))) (neI hb6)).1, (ch_s1 (not_f hb1) (neI hb2) (Or.inr (yF (not_t (not_f hb4)))) (yF (not_t (not_f hb4))) (neI hb6)).2] <;> rfl, hS.bel⟩)
     ·
      exact absurd ((show (!decide (k.s = 0)) = true from (not_f hb4)).symm.trans hb5) (by decide)
   ·
    refine sS Tryz.f36 7 [1, 2, 4, 5, 6, 24] [] (fun _ => [(.int .u32 ((i : Nat) : Int)), (.bool false), (.bool false), undef, undef, (.bool false), (.bool false)]) (fun _ => []) (cR [[]] <| cA (fun _ => (.bool false)) (fun _ => congrArg Value.bool hb3) <| cR [[], [], [], [], []] <| cN) (fun _ => ?_)
    refine oN ?_
    refine ok_skip ?_
    refine mt_block_n ?_
    refine mt_then ?_
    refine sS Tryz.f36 5 [1, 2, 4, 5, 6, 7] [] (fun ρ => [(.agg (kY k)), (.int .u32 ((i : Nat) : Int)), (.agg (hB (twk k i))), (pt (nb ρ 3)), undef]) (fun ρ => [(3, (nw ρ 3 (cL (hB 0) 43))), (4, (pwt 26 (nb ρ 3) (cL (hB (twk k i)) 43)))]) (cR [[0], []] <| cX (qC (fun _ _ w hG => twk_any k i hk hi w hG.facts0.now.1 hG.facts0.now.2.1)) <| cR [[], [26]] <| cN) (fun ρ21 => ?_)
    refine sD Tryz.f36 [0, 1, 0, 7, 0, 16, 48, 0, 0, 271, 1023, 0, 4095] 13 [2, 4, 5, 6, 7, 8] [] (fun ρ => [(.pointer (some ⟨nb ρ1 0, 8, none⟩)), (.slice (some ⟨nb ρ1 0, 8, none⟩) (hL k.c).length 32), (vs (nb ρ21 3) (hL (twk k i)).length 32), (.agg (hB (hmN k.c (hL (twk k i))))), (.pointer (some ⟨nb ρ1 0, 40, none⟩)), (vi k.d), (vi (k.d + 1)), (.int .u32 ((i : Nat) : Int)), (.agg (kY k)), (.int .u32 ((prN k.p : Nat) : Int)), (.agg (kC 0 0 (hmN k.c (hL (twk k i))) (k.d + 1) ((i : Nat) : Int) ((prN k.p : Nat) : Int))), (pt (nb ρ 11)), undef]) (fun ρ => [(11, (nw ρ 11 (cL (kC 0 0 0 0 0 0) 48))), (12, (pwt 91 (nb ρ 11) (cL (kC 0 0 (hmN k.c (hL (twk k i))) (k.d + 1) ((i : Nat) : Int) ((prN k.p : Nat) : Int)) 48)))]) (cR [[], [], []] <| cX (qC (fun _ _ w hG => hmac_any (some ⟨nb ρ1 0, 8, none⟩) 32 k.c (some ⟨nb ρ21 3, 0, none⟩) 32 (hL (twk k i)) (by rw [hL_length]; decide) w (Bs.of_key (hG.kn (g := nb ρ1 0) (o := (cL (kY k) 48)) 0)) (Bs.of_hd (c := 32) (hG.kn (g := nb ρ21 3) (o := (cL (hB (twk k i)) 43)) 2) (hd_hB _) (Nat.le_refl _) (Nat.le_of_ble_eq_true rfl)) hG.facts0.now.1 hG.facts0.now.2.1)) <| cR [[], [0]] <| cA (v := fun ρ => (vi (IntKind.i64.wrap (k.d + 1)))) (fun _ => (vi (k.d + 1))) (fun _ => congrArg (Value.int .i64) (i64N (by have := snd_get (not_f hb1); omega))) <| cR [[], [0]] <| cX (qC (fun _ _ w hG => kprint_any k hk w hG.facts0.now.1 hG.facts0.now.2.1)) <| cR [[], [], [91]] <| cN) (fun ρ22 => ?_)
    refine dRs [(2, (pt (nb ρ1 0))), (4, (pt (nb ρ1 1))), (5, (vi 0)), (6, (.bool (!decide (k.s = 0)))), (7, (pt (nb ρ21 3))), (8, (pt (nb ρ22 11)))] [(nb ρ1 0, (cL (kY k) 48)), (nb ρ1 1, (cL (kC 0 0 0 0 0 0) 48)), (nb ρ21 3, (cL (hB (twk k i)) 43)), (nb ρ22 11, (cL (kC 0 0 (hmN k.c (hL (twk k i))) (k.d + 1) ((i : Nat) : Int) ((prN k.p : Nat) : Int)) 48))] ?_
    refine sS Tryz.f36 1 [2, 4, 5, 6, 7, 8, 9] [] (fun _ => [(vi 0)]) (fun _ => []) (cR [[]] <| cN) (fun _ => ?_)
    refine ok_seq ?_
    refine sS Tryz.f36 1 [2, 4, 5, 7, 8, 9, 46] [] (fun _ => [(.bool (!decide (k.s = 0)))]) (fun _ => []) (cR [[]] <| cN) (fun _ => ?_)
    refine oC (!decide (k.s = 0)) (fun hb7 => ?_) (fun hb7 => ?_)
    ·
     rw [hb7]
     refine sS Tryz.f36 10 [4, 5, 8, 9] [0, 1, 0, 1] (fun _ => [(pt (nb ρ1 0)), (U k.s), (.agg (hB (twk k i))), (.tuple #[(U (tsV k.s (twk k i))), (vi (tsE k.s (twk k i)))]), (.tuple #[(U (tsV k.s (twk k i))), (vi (tsE k.s (twk k i)))]), (U (tsV k.s (twk k i))), (vi (tsE k.s (twk k i))), (pt (nb ρ22 11)), undef, (vi (tsE k.s (twk k i)))]) (fun _ => [(8, (pwt 3 (nb ρ22 11) (cL (kC (tsV k.s (twk k i)) 0 (hmN k.c (hL (twk k i))) (k.d + 1) ((i : Nat) : Int) ((prN k.p : Nat) : Int)) 48)))]) (cR [[], [0], [2]] <| cC (f := 65) (args := fun ρ => #[(U k.s), (.agg (hB (twk k i)))]) (v := fun ρ => (.tuple #[(U (tsV k.s (twk k i))), (vi (tsE k.s (twk k i)))])) (fun _ w => (fun w => tweaksecret_any k.s (twk k i) hk.s (twk_lt _ _) w) w) <| cR [[], [], [], [], [3], []] <| cN) (fun _ => ?_)
     refine sS Tryz.f36 2 [4, 5, 8, 9, 56] [] (fun _ => [(vi (tsE k.s (twk k i))), (.bool ((tsE k.s (twk k i)) == 0))]) (fun _ => []) (cR [[], []] <| cN) (fun _ => ?_)
     refine oC ((tsE k.s (twk k i)) == 0) (fun hb8 => ?_) (fun hb8 => ?_)
     ·
      rw [hb8]
      refine rS Tryz.f36 9 [4, 5, 8, 9] [] (fun _ => [(pt (nb ρ22 11)), (U (tsV k.s (twk k i))), (.tuple #[(U (pubV (tsV k.s (twk k i)))), (vi (pubE (tsV k.s (twk k i))))]), (.tuple #[(U (pubV (tsV k.s (twk k i)))), (vi (pubE (tsV k.s (twk k i))))]), (U (pubV (tsV k.s (twk k i)))), (vi (pubE (tsV k.s (twk k i)))), (.pointer (some ⟨nb ρ22 11, 4, none⟩)), undef, (vi (pubE (tsV k.s (twk k i))))]) (fun _ => [(7, (pwt 1 (nb ρ22 11) (cL (kC (tsV k.s (twk k i)) (pubV (tsV k.s (twk k i))) (hmN k.c (hL (twk k i))) (k.d + 1) ((i : Nat) : Int) ((prN k.p : Nat) : Int)) 48)))]) (cR [[], [1]] <| cC (f := 61) (args := fun ρ => #[(U (tsV k.s (twk k i)))]) (v := fun ρ => (.tuple #[(U (pubV (tsV k.s (twk k i)))), (vi (pubE (tsV k.s (twk k i))))])) (fun _ w => (fun w => public_any (tsV k.s (twk k i)) (tsV_lt _ _) w) w) <| cR [[], [], [], [], [1], []] <| cN) (fun _ => ?_)
      refine mt_then ?_
      refine ok_seq ?_
      refine sS Tryz.f36 2 [4, 5, 8, 9, 73] [] (fun _ => [(vi (pubE (tsV k.s (twk k i)))), (.bool false)]) (fun _ => []) (cR [[]] <| cA (fun _ => (.bool false)) (fun _ => congrArg Value.bool (pub_ts (bnI hb8))) <| cN) (fun _ => ?_)
      refine oN ?_
      refine ok_skip ?_
      refine mt_then ?_
      refine sS Tryz.f36 3 [4, 5] [1, 0] (fun _ => [(.agg (kC (tsV k.s (twk k i)) (pubV (tsV k.s (twk k i))) (hmN k.c (hL (twk k i))) (k.d + 1) ((i : Nat) : Int) ((prN k.p : Nat) : Int))), undef, (vi 0)]) (fun _ => [(1, (pwt 0 (nb ρ1 1) (cL (kC (tsV k.s (twk k i)) (pubV (tsV k.s (twk k i))) (hmN k.c (hL (twk k i))) (k.d + 1) ((i : Nat) : Int) ((prN k.p : Nat) : Int)) 48)))]) (cR [[1], [0], []] <| cN) (fun _ => ?_)
      refine ok_ret ?_
      exact mR (v := (.tuple #[(.agg (kC (tsV k.s (twk k i)) (pubV (tsV k.s (twk k i))) (hmN k.c (hL (twk k i))) (k.d + 1) ((i : Nat) : Int) ((prN k.p : Nat) : Int))), (vi 0)])) (fun _ hS => ⟨by rw [(ch_s0 (not_f hb1) (neI hb2) (Or.inr (yF (not_t hb7))) (yF (not_t hb7)) (eqI hb8)).1, (ch_s0 (not_f hb1) (neI hb2) (Or.inr (yF (not_t hb7))) (yF (not_t hb7)) (eqI hb8)).2] <;> rfl, hS.bel⟩)
     ·
      rw [hb8]
      refine ok_skip ?_
      refine mt_then ?_
      refine ok_seq ?_
      refine sS Tryz.f36 2 [4, 5, 8, 9, 73] [] (fun _ => [(vi (tsE k.s (twk k i))), (.bool true)]) (fun _ => []) (cR [[]] <| cA (fun _ => (.bool true)) (fun _ => congrArg Value.bool (bn_n hb8)) <| cN) (fun _ => ?_)
      refine oY ?_
      refine sS Tryz.f36 4 [4, 5, 8] [] (fun _ => [(.agg (kC 0 0 0 0 0 0)), (vi (tsE k.s (twk k i))), undef, (vi (tsE k.s (twk k i)))]) (fun _ => [(2, (pwt 0 (nb ρ1 1) (cL (kC 0 0 0 0 0 0) 48)))]) (cR [[], [], [0], []] <| cN) (fun _ => ?_)
      refine ok_ret ?_
      refine mt_then_r ?_
      exact mR (v := (.tuple #[(.agg (kC 0 0 0 0 0 0)), (vi (tsE k.s (twk k i)))])) (fun _ hS => ⟨by rw [(ch_s1 (not_f hb1) (neI hb2) (Or.inr (yF (not_t hb7))) (yF (not_t hb7)) (neI hb8)).1, (ch_s1 (not_f hb1) (neI hb2) (Or.inr (yF (not_t hb7))) (yF (not_t hb7)) (neI hb8)).2] <;> rfl, hS.bel⟩)
    ·
     rw [hb7]
     refine rS Tryz.f36 10 [4, 5, 8, 9] [0, 1, 0, 1] (fun _ => [(.pointer (some ⟨nb ρ1 0, 4, none⟩)), (U k.p), (.agg (hB (twk k i))), (.tuple #[(U (twV k.p (twk k i))), (vi (twE k.p (twk k i)))]), (.tuple #[(U (twV k.p (twk k i))), (vi (twE k.p (twk k i)))]), (U (twV k.p (twk k i))), (vi (twE k.p (twk k i))), (.pointer (some ⟨nb ρ22 11, 4, none⟩)), undef, (vi (twE k.p (twk k i)))]) (fun _ => [(8, (pwt 3 (nb ρ22 11) (cL (kC 0 (twV k.p (twk k i)) (hmN k.c (hL (twk k i))) (k.d + 1) ((i : Nat) : Int) ((prN k.p : Nat) : Int)) 48)))]) (cR [[], [0], [2]] <| cC (f := 66) (args := fun ρ => #[(U k.p), (.agg (hB (twk k i)))]) (v := fun ρ => (.tuple #[(U (twV k.p (twk k i))), (vi (twE k.p (twk k i)))])) (fun _ w => (fun w => tweak_any k.p (twk k i) hk.p (twk_lt _ _) w) w) <| cR [[], [], [], [], [3], []] <| cN) (fun _ => ?_)
     refine mt_then ?_
     refine ok_seq ?_
     refine sS Tryz.f36 2 [4, 5, 8, 9, 73] [] (fun _ => [(vi (twE k.p (twk k i))), (.bool ((twE k.p (twk k i)) != 0))]) (fun _ => []) (cR [[], []] <| cN) (fun _ => ?_)
     refine oC ((twE k.p (twk k i)) != 0) (fun hb9 => ?_) (fun hb9 => ?_)
     ·
      rw [hb9]
      refine sS Tryz.f36 4 [4, 5, 8] [] (fun _ => [(.agg (kC 0 0 0 0 0 0)), (vi (twE k.p (twk k i))), undef, (vi (twE k.p (twk k i)))]) (fun _ => [(2, (pwt 0 (nb ρ1 1) (cL (kC 0 0 0 0 0 0) 48)))]) (cR [[], [], [0], []] <| cN) (fun _ => ?_)
      refine ok_ret ?_
      refine mt_then_r ?_
      exact mR (v := (.tuple #[(.agg (kC 0 0 0 0 0 0)), (vi (twE k.p (twk k i)))])) (fun _ hS => ⟨by rw [(ch_p1 (not_f hb1) (neI hb2) (Or.inl (hd_f hb3)) (yT (not_f hb7)) (bne0 hb9)).1, (ch_p1 (not_f hb1) (neI hb2) (Or.inl (hd_f hb3)) (yT (not_f hb7)) (bne0 hb9)).2] <;> rfl, hS.bel⟩)
     ·
      rw [hb9]
      refine ok_skip ?_
      refine mt_then ?_
      refine sS Tryz.f36 3 [4, 5] [1, 0] (fun _ => [(.agg (kC 0 (twV k.p (twk k i)) (hmN k.c (hL (twk k i))) (k.d + 1) ((i : Nat) : Int) ((prN k.p : Nat) : Int))), undef, (vi 0)]) (fun _ => [(1, (pwt 0 (nb ρ1 1) (cL (kC 0 (twV k.p (twk k i)) (hmN k.c (hL (twk k i))) (k.d + 1) ((i : Nat) : Int) ((prN k.p : Nat) : Int)) 48)))]) (cR [[1], [0], []] <| cN) (fun _ => ?_)
      refine ok_ret ?_
      exact mR (v := (.tuple #[(.agg (kC 0 (twV k.p (twk k i)) (hmN k.c (hL (twk k i))) (k.d + 1) ((i : Nat) : Int) ((prN k.p : Nat) : Int))), (vi 0)])) (fun _ hS => ⟨by rw [(ch_p0 (not_f hb1) (neI hb2) (Or.inl (hd_f hb3)) (yT (not_f hb7)) (bne0' hb9)).1, (ch_p0 (not_f hb1) (neI hb2) (Or.inl (hd_f hb3)) (yT (not_f hb7)) (bne0' hb9)).2] <;> rfl, hS.bel⟩)
theorem derive_any (k : Ky) (a : Option Addr) (c : Nat) (ps : List Nat) (hk : k.Ok) (hp : ∀ i ∈ ps, i < 4294967296) (w0 : World) (hf0 : Is w0 .u32 a c (nI ps)) (hf1 : KbK w0) (hf2 : KbI w0) : Calls Tryz.prog 23 #[(.agg (kY k)), (.slice a (nI ps).length c)] w0 (fun ε w' => ε = .returned (.tuple #[(.agg (kY (drK k ps))), (vi (drE k ps))]) ∧ Below w0.heap.size w0 w') := by
 refine Calls.of_ok (n := 33) (F := (fun w => Is w .u32 a c (nI ps) ∧ KbK w ∧ KbI w ∧ True)) Tryz.func23 rfl rfl rfl (by simp) (hf0.pers0.and (hf1.pers0.and (hf2.pers0.and persT))) ?_
 have hlen : (nI ps).length ≤ 140737488351232 := hf0.max
 refine sS Tryz.f23 3 [1, 2, 4, 5] [] (fun ρ => [(pt (nb ρ 0)), (pt (nb ρ 1)), (vi 0)]) (fun ρ => [(0, (nw ρ 0 (cL (kY k) 48))), (1, (nw ρ 1 (cL (kC 0 0 0 0 0 0) 48)))]) (cR [[], [], []] <| cN) (fun ρ1 => ?_)
 refine ok_seq ?_
 refine sS Tryz.f23 3 [1, 2, 4, 5, 12] [] (fun _ => [(.agg (kY k)), (.bool (sndB k)), (.bool (!(sndB k)))]) (fun _ => []) (cR [[0]] <| cC (fun _ w => ksound_any k hk w) <| cR [[]] <| cN) (fun _ => ?_)
 refine oC (!(sndB k)) (fun hb1 => ?_) (fun hb1 => ?_)
 ·
  rw [hb1]
  refine sS Tryz.f23 3 [1, 2, 4, 5] [] (fun _ => [(.agg (kC 0 0 0 0 0 0)), undef, (vi 6)]) (fun _ => [(1, (pwt 1 (nb ρ1 1) (cL (kC 0 0 0 0 0 0) 48)))]) (cR [[], [1], []] <| cN) (fun _ => ?_)
  refine ok_ret ?_
  refine mt_then_r ?_
  exact mR (v := (.tuple #[(.agg (kC 0 0 0 0 0 0)), (vi 6)])) (ps := [1,1,1,1,1,1,1,1,1,1,1,1,1,1,1,1,1,1,1,1,1,1,1,1,1,1,1,1,1,1,1,1,1,1,1,1,1,1,1,1,1,1,1]) (fun _ hS => ⟨by rw [(dr_6 (not_t hb1)).1, (dr_6 (not_t hb1)).2]; rfl, hS.bel⟩)
 ·
  rw [hb1]
  refine ok_skip ?_
  refine mt_then ?_
  refine ok_seq ?_
  refine sS Tryz.f23 3 [2, 4, 5, 14, 15, 16] [] (fun _ => [(.slice a (nI ps).length c), (vn ((nI ps).length)), (vi 0)]) (fun _ => []) (cR [[], [], []] <| cN) (fun _ => ?_)
  refine ok_block ?_
  refine oL (σ := Nat × Ky) (fun ⟨j, _⟩ => [(2, (pt (nb ρ1 0))), (4, (pt (nb ρ1 1))), (14, (.slice a (nI ps).length c)), (15, (vn ((nI ps).length))), (16, (vn j))]) (fun ⟨_, x⟩ => [(nb ρ1 0, (cL (kY x) 48)), (nb ρ1 1, (cL (kC 0 0 0 0 0 0) 48))]) (fun ⟨j, _⟩ => (nI ps).length - j)
    (fun ⟨j, x⟩ => (j ≤ (nI ps).length) ∧ (x.Ok) ∧ (sndB x = true) ∧ (dvE x (ps.drop j) = dvE k ps) ∧ (dvK x (ps.drop j) = dvK k ps)) (0, k) (⟨Nat.zero_le _, hk, (not_f hb1), rfl, rfl⟩) [] ?_
  rintro ⟨j, x⟩ ⟨hj, hx, hsx, hE, hK⟩
  change Ok Tryz.prog _ _ 33 [(2, (pt (nb ρ1 0))), (4, (pt (nb ρ1 1))), (14, (.slice a (nI ps).length c)), (15, (vn ((nI ps).length))), (16, (vn j))] _ [(nb ρ1 0, (cL (kY x) 48)), (nb ρ1 1, (cL (kC 0 0 0 0 0 0) 48))] (fun w => Is w .u32 a c (nI ps) ∧ KbK w ∧ KbI w ∧ True)
  refine sS Tryz.f23 1 [2, 4, 14, 15, 16, 17] [] (fun _ => [(.bool (decide (((j : Nat) : Int) < (((nI ps).length : Nat) : Int))))]) (fun _ => []) (cR [[]] <| cN) (fun _ => ?_)
  refine ok_seq ?_
  refine oC (decide (((j : Nat) : Int) < (((nI ps).length : Nat) : Int))) (fun hb2 => ?_) (fun hb2 => ?_)
  ·
   rw [hb2]
   refine ok_skip ?_
   refine mt_then ?_
   refine ok_seq ?_
   refine ok_block ?_
   refine sS Tryz.f23 3 [2, 4, 7, 14, 15, 16] [] (fun _ => [(.pointer (adr a j)), (.int .u32 ((ps.getD j 0 : Nat) : Int)), (.int .u32 ((ps.getD j 0 : Nat) : Int))]) (fun _ => []) (cX (qF (fun _ _ _ hG => idx_ints (k := .i64) Tryz.underlying49 Tryz.sizeOf41 hG.facts0.now.1 rfl ((show ((j : Nat) : Int) = ((j : Nat) : Int) ∧ j < (nI ps).length from ⟨rfl, (by have := yT hb2; have := hlen; have := hj; omega)⟩)).1 ((show ((j : Nat) : Int) = ((j : Nat) : Int) ∧ j < (nI ps).length from ⟨rfl, (by have := yT hb2; have := hlen; have := hj; omega)⟩)).2)) <| cX (qF (v := fun ρ => (.int .u32 ((ps.getD j 0 : Nat) : Int))) (fun _ _ _ hG => (ld_ints Tryz.isAgg41 hG.facts0.now.1 ((show ((j : Nat) : Int) = ((j : Nat) : Int) ∧ j < (nI ps).length from ⟨rfl, (by have := yT hb2; have := hlen; have := hj; omega)⟩)).2).trans (by rw [nI_get]))) <| cR [[]] <| cN) (fun _ => ?_)
   refine sS Tryz.f23 9 [2, 4, 8, 9, 14, 15, 16] [] (fun ρ => [(.agg (kY x)), (.int .u32 ((ps.getD j 0 : Nat) : Int)), (.tuple #[(.agg (kY (chK x (ps.getD j 0)))), (vi (chE x (ps.getD j 0)))]), (.tuple #[(.agg (kY (chK x (ps.getD j 0)))), (vi (chE x (ps.getD j 0)))]), (.agg (kY (chK x (ps.getD j 0)))), (vi (chE x (ps.getD j 0))), (pt (nb ρ 6)), undef, (vi (chE x (ps.getD j 0)))]) (fun ρ => [(6, (nw ρ 6 (cL (kC 0 0 0 0 0 0) 48))), (7, (pwt 50 (nb ρ 6) (cL (kY (chK x (ps.getD j 0))) 48)))]) (cR [[0], []] <| cX (qC (fun _ _ w hG => child_any x (ps.getD j 0) hx (get_all hp (by decide) j) w hG.facts0.now.2.1 hG.facts0.now.2.2.1)) <| cR [[], [], [], [], [50], []] <| cN) (fun _ => ?_)
   refine ok_seq ?_
   refine sS Tryz.f23 2 [2, 4, 8, 9, 14, 15, 16, 27] [] (fun _ => [(vi (chE x (ps.getD j 0))), (.bool ((chE x (ps.getD j 0)) != 0))]) (fun _ => []) (cR [[], []] <| cN) (fun _ => ?_)
   refine oC ((chE x (ps.getD j 0)) != 0) (fun hb3 => ?_) (fun hb3 => ?_)
   ·
    rw [hb3]
    refine sS Tryz.f23 4 [2, 4, 5, 8, 14, 15, 16] [] (fun _ => [(.agg (kC 0 0 0 0 0 0)), (vi (chE x (ps.getD j 0))), undef, (vi (chE x (ps.getD j 0)))]) (fun _ => [(2, (pwt 1 (nb ρ1 1) (cL (kC 0 0 0 0 0 0) 48)))]) (cR [[], [], [1], []] <| cN) (fun _ => ?_)
    refine ok_ret ?_
    refine mt_then_r ?_
    refine mt_block_r ?_
    refine mt_then_r ?_
    refine mt_then_r ?_
    refine mt_block_r ?_
    refine mt_then_r ?_
    exact mR (v := (.tuple #[(.agg (kC 0 0 0 0 0 0)), (vi (chE x (ps.getD j 0)))])) (ps := [1,1,1,1,1,1,1,1,1,1,1,1,1,1,1,1,1,1,1,1,1,1,1,1,1,1,1,1,1,1,1,1,1,1,1,1,1,1,1,1,1,1,1]) (fun _ hS => ⟨by rw [(dv_fail (not_f hb1) hsx (by have := nI_len ps; have := yT hb2; have := hlen; have := hj; omega) hE hK hb3).1, (dv_fail (not_f hb1) hsx (by have := nI_len ps; have := yT hb2; have := hlen; have := hj; omega) hE hK hb3).2]; rfl, hS.bel⟩)
   ·
    rw [hb3]
    refine ok_skip ?_
    refine mt_then ?_
    refine rS Tryz.f23 2 [2, 4, 14, 15, 16] [1, 1, 0] (fun _ => [(.agg (kY (chK x (ps.getD j 0)))), undef]) (fun _ => [(1, (pwt 0 (nb ρ1 0) (cL (kY (chK x (ps.getD j 0))) 48)))]) (cR [[2], [0]] <| cN) (fun _ => ?_)
    refine mt_block_n ?_
    refine mt_then ?_
    refine rS Tryz.f23 2 [2, 4, 14, 15, 16] [] (fun _ => [(vn (j + 1)), (vn (j + 1))]) (fun _ => []) (cA (v := fun ρ => (vi (IntKind.i64.wrap (((j : Nat) : Int) + 1)))) (fun _ => (vn (j + 1))) (fun _ => congrArg (Value.int .i64) (wrap_addN j 1 (by have := yT hb2; have := hlen; have := hj; omega))) <| cR [[]] <| cN) (fun _ => ?_)
    exact mN (j + 1, chK x (ps.getD j 0)) (by show (nI ps).length - (j + 1) < (nI ps).length - j; have := yT hb2; have := hlen; have := hj; omega) (⟨(by have := yT hb2; have := hlen; have := hj; omega), chK_ok _ _ (get_all hp (by decide) j), (dv_next hsx (by have := nI_len ps; have := yT hb2; have := hlen; have := hj; omega) hE hK hb3).1, (dv_next hsx (by have := nI_len ps; have := yT hb2; have := hlen; have := hj; omega) hE hK hb3).2.1, (dv_next hsx (by have := nI_len ps; have := yT hb2; have := hlen; have := hj; omega) hE hK hb3).2.2⟩) []
  ·
   rw [hb2]
   refine ok_exit ?_
   refine mt_then_e ?_
   refine mt_then_e ?_
   refine mt_block_h ?_
   refine mt_then ?_
   refine sS Tryz.f23 3 [4, 5] [0, 1] (fun _ => [(.agg (kY x)), undef, (vi 0)]) (fun _ => [(1, (pwt 1 (nb ρ1 1) (cL (kY x) 48)))]) (cR [[0], [1], []] <| cN) (fun _ => ?_)
   refine ok_ret ?_
   exact mR (v := (.tuple #[(.agg (kY x)), (vi 0)])) (fun _ hS => ⟨by rw [(dv_done (not_f hb1) (by have := nI_len ps; have := yF hb2; have := hlen; have := hj; omega) hE hK).1, (dv_done (not_f hb1) (by have := nI_len ps; have := yF hb2; have := hlen; have := hj; omega) hE hK).2] <;> rfl, hS.bel⟩)
end Go.Proofs.YtaebcmpbbamfpaaGreatDoor
