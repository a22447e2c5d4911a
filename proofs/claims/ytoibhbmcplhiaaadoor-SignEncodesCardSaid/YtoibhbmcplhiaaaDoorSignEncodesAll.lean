/-
  The statement SignEncodes: for every input the law returns true, and each argument reads behind the call as it read before. No condition.
-/
import Derived.Test.YtoibhbmcplhiaaaDoorBase5
import Derived.Test.YtoibhbmcplhiaaaDoorRows
import Derived.Test.YtoibhbmcplhiaaaDoorCards
import Derived.Test.YtoibhbmcplhiaaaDoorTie
import Derived.SevenTiedAt
import Derived.LaidMore
import Derived.LaidHandle
import Derived.Stop.Joined
import Derived.WalkKit
import Derived.ProofKit
import Derived.OpenShut
import Derived.SizedLaws
set_option maxRecDepth 100000

/-! The law SignEncodes: the walk. -/
namespace Go.Proofs.YtoibhbmcplhiaaaDoor
open Go Go.RowKit

theorem signEncodesw_any (E : Nat) (S : Nat) (a : Option Addr) (c : Nat) (B : List UInt8) (hE : E < M) (hS : S < M) (w0 : World) (hf0 : Kb w0 1 (rowK .u32 64 kN)) (hf1 : Kb w0 0 #[(.int .u32 1779033703), (.int .u32 3144134277), (.int .u32 1013904242), (.int .u32 2773480762), (.int .u32 1359893119), (.int .u32 2600822924), (.int .u32 528734635), (.int .u32 1541459225)]) (hf2 : Bs w0 a c B) : Calls Tryd.prog 7 #[(.agg (cU E ++ cU S)), (.slice a (B).length c)] w0 (fun ε w' => ε = .returned (.bool true) ∧ Below w0.heap.size w0 w') := by
  refine Calls.of_ok (n := 55) (F := (fun w => Kb w 1 (rowK .u32 64 kN) ∧ Kb w 0 #[(.int .u32 1779033703), (.int .u32 3144134277), (.int .u32 1013904242), (.int .u32 2773480762), (.int .u32 1359893119), (.int .u32 2600822924), (.int .u32 528734635), (.int .u32 1541459225)] ∧ Bs w a c B ∧ True)) Tryd.func7 rfl rfl rfl (by simp) (hf0.pers0.and (hf1.pers0.and (hf2.pers0.and persT))) ?_
  refine sS Tryd.f7 2 [1, 2, 4] [] (fun ρ => [(pt (nb ρ 0)), (.bool false)]) (fun ρ => [(0, { news := [(nb ρ 0, (.cells (cU E ++ cU S) 36 (0, 0)))] })]) (cR [[], []] <| cN) (fun ρ1 => ?_)
  refine ok_seq ?_
  refine sS Tryd.f7 2 [1, 2, 4, 12] [] (fun _ => [(.bool true), (.bool false)]) (fun _ => []) (cX (o_callP _ 12 (fun _ => #[]) (fun _ => (.bool true)) (fun _ _ => (by kernel_rfl)) (fun _ => (by kernel_rfl)) (fun _ _ => (by kernel_rfl)) (fun _ _ => trivial) (fun _ _ w hG => ssane_any w hG.facts0.now.1 hG.facts0.now.2.1)) <| cR [[]] <| cN) (fun _ => ?_)
  refine oN ?_
  refine ok_skip ?_
  refine mt_then ?_
  refine ok_seq ?_
  refine sS Tryd.f7 3 [1, 2, 4, 15] [] (fun _ => [(.slice a (B).length c), (.int .i64 (((B).length : Nat) : Int)), (.bool (decide (200 < (((B).length : Nat) : Int))))]) (fun _ => []) (cR [[], [], []] <| cN) (fun _ => ?_)
  refine oC (decide (200 < (((B).length : Nat) : Int))) (fun hb1 => ?_) (fun hb1 => ?_)
  ·
    rw [hb1]
    refine sS Tryd.f7 1 [1, 2, 4] [] (fun _ => [(.bool true)]) (fun _ => []) (cR [[]] <| cN) (fun _ => ?_)
    refine ok_ret ?_
    refine mt_then_r ?_
    exact mR (v := (.bool true)) (fun _ hS => ⟨rfl, hS.below⟩)
  ·
    rw [hb1]
    refine ok_skip ?_
    refine mt_then ?_
    refine sS Tryd.f7 8 [1, 2, 4, 5, 6] [] (fun ρ => [(.slice a (B).length c), (.tuple #[(.agg (cU (sdE B) ++ cU (sdS B))), (.int .i64 (sdX B))]), (.tuple #[(.agg (cU (sdE B) ++ cU (sdS B))), (.int .i64 (sdX B))]), (.agg (cU (sdE B) ++ cU (sdS B))), (.int .i64 (sdX B)), (pt (nb ρ 5)), undef, (.int .i64 (sdX B))]) (fun ρ => [(5, { news := [(nb ρ 5, (.cells (cU 0 ++ cU 0) 36 (0, 0)))] }), (6, { puts := [(41, nb ρ 5, (.cells (cU (sdE B) ++ cU (sdS B)) 36 (0, 0)))] })]) (cR [[]] <| cX (o_callP _ 26 (fun _ => #[(.slice a (B).length c)]) (fun _ => (.tuple #[(.agg (cU (sdE B) ++ cU (sdS B))), (.int .i64 (sdX B))])) (fun _ _ => (by kernel_rfl)) (fun _ => (by kernel_rfl)) (fun _ _ => (by kernel_rfl)) (fun _ _ => trivial) (fun _ _ w hG => decode_any a c B w hG.facts0.now.2.2.1)) <| cR [[], [], [], [], [41], []] <| cN) (fun ρ5 => ?_)
    refine sS Tryd.f7 8 [2, 4, 5, 6, 7, 8] [] (fun ρ => [(.slice a (B).length c), (.tuple #[(.agg (cU (sdE B) ++ cU (sdS B))), (.int .i64 (sdX B))]), (.tuple #[(.agg (cU (sdE B) ++ cU (sdS B))), (.int .i64 (sdX B))]), (.agg (cU (sdE B) ++ cU (sdS B))), (.int .i64 (sdX B)), (pt (nb ρ 5)), undef, (.int .i64 (sdX B))]) (fun ρ => [(5, { news := [(nb ρ 5, (.cells (cU 0 ++ cU 0) 36 (0, 0)))] }), (6, { puts := [(42, nb ρ 5, (.cells (cU (sdE B) ++ cU (sdS B)) 36 (0, 0)))] })]) (cR [[]] <| cX (o_callP _ 27 (fun _ => #[(.slice a (B).length c)]) (fun _ => (.tuple #[(.agg (cU (sdE B) ++ cU (sdS B))), (.int .i64 (sdX B))])) (fun _ _ => (by kernel_rfl)) (fun _ => (by kernel_rfl)) (fun _ _ => (by kernel_rfl)) (fun _ _ => trivial) (fun _ _ w hG => rdecode_any a c B w hG.facts0.now.2.2.1)) <| cR [[], [], [], [], [42], []] <| cN) (fun ρ6 => ?_)
    refine dRs [(2, (pt (nb ρ1 0))), (4, (.bool false)), (5, (pt (nb ρ5 5))), (6, (.int .i64 (sdX B))), (7, (pt (nb ρ6 5))), (8, (.int .i64 (sdX B)))] [(nb ρ1 0, (.cells (cU E ++ cU S) 36 (0, 0))), (nb ρ5 5, (.cells (cU (sdE B) ++ cU (sdS B)) 36 (0, 0))), (nb ρ6 5, (.cells (cU (sdE B) ++ cU (sdS B)) 36 (0, 0)))] ?_
    refine ok_seq ?_
    refine sDf Tryd.f7 [0, 0, 3, 7, 15, 15, 63, 127, 255, 511, 1023, 511, 4095, 8191, 16383, 32767] 16 [2, 4, 41] [1, 0, 0] (fun ρ => [(.agg (cU (sdE B) ++ cU (sdS B))), (.agg (cU (sdE B) ++ cU (sdS B))), (.bool false), (.bool false), (.int .i64 (sdX B)), (.int .i64 (sdX B)), (.bool false), (.bool false), (.bool false), (.agg (cU E ++ cU S)), (.slice (oa ρ 10) (hL E ++ hL S).length (nb ρ 10)), (.agg (cU E ++ cU S)), (.slice (oa ρ 12) (hL E ++ hL S).length (nb ρ 12)), (.bool true), (.bool false), (.bool false)]) (fun _ => []) (fun ρ => [(10, fun w => Fs w0 w (oa ρ 10) (nb ρ 10) (hL E ++ hL S)), (12, fun w => Fs w0 w (oa ρ 12) (nb ρ 12) (hL E ++ hL S))]) (fun ρ => (fun w => Kb w 1 (rowK .u32 64 kN) ∧ Kb w 0 #[(.int .u32 1779033703), (.int .u32 3144134277), (.int .u32 1013904242), (.int .u32 2773480762), (.int .u32 1359893119), (.int .u32 2600822924), (.int .u32 528734635), (.int .u32 1541459225)] ∧ Bs w a c B ∧ Fs w0 w (oa ρ 10) (nb ρ 10) (hL E ++ hL S) ∧ Fs w0 w (oa ρ 12) (nb ρ 12) (hL E ++ hL S) ∧ True)) (fun _ => True) (fun _ _ hF hf => ⟨⟨hF.1, hF.2.1, hF.2.2.1, hf 10, hf 12, trivial⟩, trivial⟩) (cR [[1], [2]] <| cB (a := fun ρ => (.agg (cU (sdE B) ++ cU (sdS B)))) (b := fun ρ => (.agg (cU (sdE B) ++ cU (sdS B)))) (v := fun ρ => (.bool false)) .neq 36 (fun _ w => neq_same w) <| cR [[], [], []] <| cA (v := fun ρ => (.bool ((sdX B) != (sdX B)))) (fun _ => (.bool false)) (fun _ => congrArg Value.bool (bne_self_eq_false _)) <| cR [[], [], [0]] <| cX (o_callB _ 29 (fun _ => #[(.agg (cU E ++ cU S))]) (fun _ α κ => (.slice α (hL E ++ hL S).length κ)) (fun _ => hL E ++ hL S) (fun _ _ => (by kernel_rfl)) (fun _ _ => (by kernel_rfl)) (fun _ _ => (by kernel_rfl)) (fun _ _ => (by kernel_rfl)) (fun _ _ w _ => encode_any E S hE hS w )) <| cR [[0]] <| cX (o_callB _ 30 (fun _ => #[(.agg (cU E ++ cU S))]) (fun _ α κ => (.slice α (hL E ++ hL S).length κ)) (fun _ => hL E ++ hL S) (fun _ _ => (by kernel_rfl)) (fun _ _ => (by kernel_rfl)) (fun _ _ => (by kernel_rfl)) (fun _ _ => (by kernel_rfl)) (fun _ _ w _ => rencode_any E S hE hS w )) <| cX (o_callP _ 28 (fun ρ => #[(.slice (oa ρ 10) (hL E ++ hL S).length (nb ρ 10)), (.slice (oa ρ 12) (hL E ++ hL S).length (nb ρ 12))]) (fun _ => (.bool true)) (fun _ _ => (by kernel_rfl)) (fun _ => (by kernel_rfl)) (fun _ _ => (by kernel_rfl)) (fun _ _ => trivial) (fun ρ _ w hG => same6_eq (oa ρ 10) (nb ρ 10) (hL E ++ hL S) (oa ρ 12) (nb ρ 12) w ((show Fs w0 w (oa ρ 10) (nb ρ 10) (hL E ++ hL S) from (hG.facts 10 rfl).now).1) ((show Fs w0 w (oa ρ 12) (nb ρ 12) (hL E ++ hL S) from (hG.facts 12 rfl).now).1))) <| cR [[], []] <| cN) (fun ρ7 _ => ?_)
    refine oN ?_
    refine ok_skip ?_
    refine mt_then ?_
    refine sSf Tryd.f7 9 [2, 4, 9, 10] [] (fun ρ => [(.agg (cU E ++ cU S)), (.slice (oa ρ 1) (hL E ++ hL S).length (nb ρ 1)), (.tuple #[(.agg (cU (sdE (hL E ++ hL S)) ++ cU (sdS (hL E ++ hL S)))), (.int .i64 (sdX (hL E ++ hL S)))]), (.tuple #[(.agg (cU (sdE (hL E ++ hL S)) ++ cU (sdS (hL E ++ hL S)))), (.int .i64 (sdX (hL E ++ hL S)))]), (.agg (cU (sdE (hL E ++ hL S)) ++ cU (sdS (hL E ++ hL S)))), (.int .i64 (sdX (hL E ++ hL S))), (pt (nb ρ 6)), undef, (.int .i64 (sdX (hL E ++ hL S)))]) (fun ρ => [(6, { news := [(nb ρ 6, (.cells (cU 0 ++ cU 0) 36 (0, 0)))] }), (7, { puts := [(49, nb ρ 6, (.cells (cU (sdE (hL E ++ hL S)) ++ cU (sdS (hL E ++ hL S))) 36 (0, 0)))] })]) (fun ρ => [(1, fun w => Fs w0 w (oa ρ 1) (nb ρ 1) (hL E ++ hL S))]) (fun ρ => (fun w => Kb w 1 (rowK .u32 64 kN) ∧ Kb w 0 #[(.int .u32 1779033703), (.int .u32 3144134277), (.int .u32 1013904242), (.int .u32 2773480762), (.int .u32 1359893119), (.int .u32 2600822924), (.int .u32 528734635), (.int .u32 1541459225)] ∧ Bs w a c B ∧ Fs w0 w (oa ρ7 10) (nb ρ7 10) (hL E ++ hL S) ∧ Fs w0 w (oa ρ7 12) (nb ρ7 12) (hL E ++ hL S) ∧ Fs w0 w (oa ρ 1) (nb ρ 1) (hL E ++ hL S) ∧ True)) (fun _ => True) (fun _ _ hF hf => ⟨⟨hF.1, hF.2.1, hF.2.2.1, hF.2.2.2.1, hF.2.2.2.2.1, hf 1, trivial⟩, trivial⟩) (cR [[0]] <| cX (o_callB _ 29 (fun _ => #[(.agg (cU E ++ cU S))]) (fun _ α κ => (.slice α (hL E ++ hL S).length κ)) (fun _ => hL E ++ hL S) (fun _ _ => (by kernel_rfl)) (fun _ _ => (by kernel_rfl)) (fun _ _ => (by kernel_rfl)) (fun _ _ => (by kernel_rfl)) (fun _ _ w _ => encode_any E S hE hS w )) <| cX (o_callP _ 26 (fun ρ => #[(.slice (oa ρ 1) (hL E ++ hL S).length (nb ρ 1))]) (fun _ => (.tuple #[(.agg (cU (sdE (hL E ++ hL S)) ++ cU (sdS (hL E ++ hL S)))), (.int .i64 (sdX (hL E ++ hL S)))])) (fun _ _ => (by kernel_rfl)) (fun _ => (by kernel_rfl)) (fun _ _ => (by kernel_rfl)) (fun _ _ => trivial) (fun ρ _ w hG => decode_any (oa ρ 1) (nb ρ 1) (hL E ++ hL S) w ((show Fs w0 w (oa ρ 1) (nb ρ 1) (hL E ++ hL S) from (hG.facts 1 rfl).now).1))) <| cR [[], [], [], [], [49], []] <| cN) (fun _ _ => ?_)
    rcases Bool.eq_false_or_eq_true ((sdX (hL E ++ hL S)) != 0) with hb2 | hb2
    ·
      refine sS Tryd.f7 8 [4] [0, 0] (fun _ => [(.int .i64 (sdX (hL E ++ hL S))), (.bool true), (.bool true), undef, undef, undef, (.bool true), (.bool true)]) (fun _ => []) (cR [[]] <| cA (fun _ => (.bool true)) (fun _ => congrArg Value.bool hb2) <| cR [[], [], [], [], [], []] <| cN) (fun _ => ?_)
      refine ok_ret ?_
      exact mR (v := (.bool true)) (fun _ hS => ⟨rfl, hS.below⟩)
    ·
      refine sS Tryd.f7 8 [4] [0, 0] (fun _ => [(.int .i64 (sdX (hL E ++ hL S))), (.bool false), (.bool false), (.agg (cU (sdE (hL E ++ hL S)) ++ cU (sdS (hL E ++ hL S)))), (.agg (cU E ++ cU S)), (.bool true), (.bool true), (.bool true)]) (fun _ => []) (cR [[]] <| cA (fun _ => (.bool false)) (fun _ => congrArg Value.bool hb2) <| cR [[], [1], [0]] <| cB (a := fun ρ => (.agg (cU (sdE (hL E ++ hL S)) ++ cU (sdS (hL E ++ hL S))))) (b := fun ρ => (.agg (cU E ++ cU S))) (v := fun ρ => (.bool true)) .eql 36 (fun _ w => eql_eq (sd_back hE hS hb2) w) <| cR [[], []] <| cN) (fun _ => ?_)
      refine ok_ret ?_
      exact mR (v := (.bool true)) (fun _ hS => ⟨rfl, hS.below⟩)
theorem signEncodes_any (E : Nat) (S : Nat) (a : Option Addr) (c : Nat) (B : List UInt8) (hE : E < M) (hS : S < M) (w0 : World) (hf0 : Kb w0 1 (rowK .u32 64 kN)) (hf1 : Kb w0 0 #[(.int .u32 1779033703), (.int .u32 3144134277), (.int .u32 1013904242), (.int .u32 2773480762), (.int .u32 1359893119), (.int .u32 2600822924), (.int .u32 528734635), (.int .u32 1541459225)]) (hf2 : Bs w0 a c B) : Calls Tryd.prog 7 #[(.agg (cU E ++ cU S)), (.slice a (B).length c)] w0 (fun ε w' => ε = .returned (.bool true) ∧ Below w0.heap.size w0 w') := signEncodesw_any E S a c B  hE hS   w0 hf0 hf1 hf2
end Go.Proofs.YtoibhbmcplhiaaaDoor

/-! The statement SignEncodes: for every input the law returns true, and each argument reads behind the call as it read before. No condition. -/
namespace Go.Proofs.YtoibhbmcplhiaaaDoor.signEncodes
open Go.ChangeShapes Go.WideShapes Go.ChangeAt Go.RowKit

set_option maxRecDepth 100000 in
theorem lifted (os : Os) (started : os.Started) (H : Type) (enc : TypeId × Value → H) :
    ReturnsInHanded {} Tryd.checked os 7 .any (fun w args => (Rows.signEncodesSpec.pre enc Tryd.prog Tryd.f7 Rows.signEncodesRow.domain false w args ∧ laidMetH Tryd.prog shaLaid w) ∧ sizedMet enc Tryd.prog Tryd.f7 (OpenSpec.ofChange Rows.signEncodesSpec) false w args) (Rows.signEncodesSpec.post enc Tryd.prog Tryd.f7 false true false false) := by
  refine returnsInHanded_of_change_and (C := Tryd.checked) (X := fun w _ => laidMetH Tryd.prog shaLaid w) (fun _ _ _ hh h => h.of_heap hh) own started (by kernel_rfl) Tryd.func7
    (ChangeSpec.witness_shaped (enc := enc) (C := Tryd.checked) (os := os) (X := fun w _ => laidMetH Tryd.prog shaLaid w) false (World.doorLaid Tryd.prog 400 os) #[.agg #[.int .u64 0, .int .u64 0, .int .u64 0, .int .u64 0, .int .u64 0, .int .u64 0, .int .u64 0, .int .u64 0], .slice none 0 0] 8 rfl (World.shaped_of_RefB (by kernel_rfl) (by kernel_rfl)) (by kernel_rfl) (by kernel_rfl) (by kernel_rfl) (door_met os _)) ?_
  intro W base args ds gs before hval0 hW hcnd hsz hL _
  have hval : ∀ (j : Nat) t v, Tryd.f7.params[j]? = some t → args[j]? = some v → Value.okWide Tryd.prog W .any base t v := hval0
  have hW' := hW
  obtain ⟨p, q, hA0, hV, rfl, hfz, hnd⟩ := hW
  have hA : DataW.TrodAll enc Tryd.prog W 0 (fun _ => true) true Tryd.f7.params.toList args.toList ds p := hA0
  rw [Tryd.params7] at hA hval
  obtain ⟨v0, vs0, d0, ds0, p0, q0, hargs, rfl, rfl, h0, r0⟩ := trodAll_cons hA
  obtain ⟨v1, vs1, d1, ds1, p1, q1, rfl, rfl, rfl, h1, r1⟩ := trodAll_cons r0
  obtain ⟨rfl, rfl, rfl⟩ := trodAll_nil r1
  obtain rfl : args = #[v0, v1] := by cases args; simp_all
  obtain ⟨rfl, rfl⟩ := trodVars_none hV
  have k0 := h0
  have lt0 : ∀ x ∈ p0, x.block < W.heap.size := by obtain ⟨m, hm⟩ := k0; exact DataW.trod_lt m _ _ _ hm
  have k1 := h1
  have lt1 : ∀ x ∈ p1, x.block < W.heap.size := by obtain ⟨m, hm⟩ := k1; exact DataW.trod_lt m _ _ _ hm
  obtain ⟨e0, s0, we0, ws0, rfl⟩ := open_us (hval 0 36 v0 rfl rfl) h0
  have s1 : ∀ elems spare, d1 = .slice elems spare → elems.length + spare.length ≤ 140737488351232 := by
    intro elems spare hd
    have hb : Tryd.checked.prog.bytesOf 5 = 1 := by kernel_rfl
    have := sized_slice hsz (j := 1) (t := 46) (e := 5) (elems := elems) (spare := spare) (by kernel_rfl) (by rw [hd]; rfl) Tryd.underlying46
    rw [hb, Nat.mul_one] at this
    exact this
  obtain ⟨a1, c1, x1, rfl, w1⟩ := open_bytes (hval 1 46 v1 rfl rfl) h1 s1
  obtain ⟨hK, hI⟩ := laid_two hL
  clear hA0 hval0
  refine (signEncodes_any e0 s0 a1 c1 x1 we0 ws0 W hK hI w1).mono fun e W' ⟨he, bel⟩ => ?_
  subst he
  exact ⟨_, rfl, _, _, _, [], _, [], hW', trodAll_mk1 (shut_bool Tryd.underlying4 _), (trodAll_cons_mk (Below.trod laidOut (by kernel_rfl) (of_decide_eq_true (by kernel_rfl)) k0 bel lt0) (trodAll_cons_mk (Below.trod laidOut (by kernel_rfl) (of_decide_eq_true (by kernel_rfl)) k1 bel lt1) trodAll_mk0)), rfl, bel.frame _, fun h => by cases h⟩

theorem over : Rows.signEncodesRow.holds Tryd.pinned (OpenSpec.ofChange Rows.signEncodesSpec) :=
  OpenClaim.holds_of_wide 7 Tryd.f7 rfl rfl rfl rfl rfl rfl rfl ⟨rfl, rfl, rfl, rfl, rfl⟩ rfl rfl rfl rfl rfl (by kernel_rfl) Tryd.func7 (by kernel_rfl)
    (of_decide_eq_true (by kernel_rfl)) (by unfold Func.isWrapper; first | (rw [if_pos (by decide +kernel)]; kernel_rfl) | (rw [if_neg (by decide +kernel)]; exact ⟨rfl, rfl⟩))
    (fun os started H enc _ => lifted os started H enc)

theorem proved : Rows.SignEncodesCardSaid :=
  Claim7.holds_tied_plain_at .later [] [.data, .data] true (true, "eb7a91200f7007481ff23797ce9ebab1098146434ad0b594d56378fb3ce83737") false
    over (fun _ h => by cases h) (by kernel_rfl) (fun _ h => by cases h) signEncodes_row_tie rfl ⟨rfl, rfl⟩ (by kernel_rfl) rfl
    (fun f fn hf hfn => by
      obtain rfl : f = 7 := Option.some.inj ((show Tryd.prog.funcNamed "lightclient/lightclientlaw06.SignEncodes" = some 7 by kernel_rfl).symm.trans hf) |>.symm
      obtain rfl : fn = Tryd.f7 := (Option.some.inj (Tryd.func7.symm.trans hfn)).symm
      exact ⟨by kernel_rfl, fun j t ht => by
        rw [Tryd.params7] at ht
        rcases j with _ | _ | j
        · have ht2 : t = 36 := by simpa using ht.symm
          subst ht2
          exact (show Tryd.prog.wantsStandIn 36 = false by kernel_rfl)
        · have ht2 : t = 46 := by simpa using ht.symm
          subst ht2
          exact (show Tryd.prog.wantsStandIn 46 = false by kernel_rfl)
        · simp at ht⟩)
    (by kernel_rfl)
#print axioms proved
end Go.Proofs.YtoibhbmcplhiaaaDoor.signEncodes
