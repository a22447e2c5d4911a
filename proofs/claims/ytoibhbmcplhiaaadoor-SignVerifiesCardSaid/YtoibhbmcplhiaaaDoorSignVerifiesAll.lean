/-
  The statement SignVerifies: for every input the law returns true, and each argument reads behind the call as it read before. No condition.
-/
import Derived.Test.YtoibhbmcplhiaaaDoorBase5
import Derived.Test.YtoibhbmcplhiaaaDoorRows
import Derived.Test.YtoibhbmcplhiaaaDoorCards
import Derived.Test.YtoibhbmcplhiaaaDoorTie
import Derived.SevenTiedAt
import Derived.LaidMore
import Derived.LaidHandle
import Derived.Stop.Joined
import Derived.WalkKit
import Derived.ProofKit
import Derived.OpenShut
import Derived.SizedLaws
set_option maxRecDepth 100000

/-! The law SignVerifies: the walk. -/
namespace Go.Proofs.YtoibhbmcplhiaaaDoor
open Go Go.RowKit

theorem signVerifiesw_any (x : Nat) (p : Nat) (m : Nat) (E : Nat) (S : Nat) (q : Nat) (hx : x < M) (hp : p < M) (hm : m < M) (hE : E < M) (hS : S < M) (hq : q < M) (eq : pubV x = q) (w0 : World) (hf0 : Kb w0 1 (rowK .u32 64 kN)) (hf1 : Kb w0 0 #[(.int .u32 1779033703), (.int .u32 3144134277), (.int .u32 1013904242), (.int .u32 2773480762), (.int .u32 1359893119), (.int .u32 2600822924), (.int .u32 528734635), (.int .u32 1541459225)]) : Calls Tryd.prog 5 #[(U x), (U p), (.agg (hB m)), (.agg (cU E ++ cU S))] w0 (fun ε w' => ε = .returned (.bool true) ∧ Below w0.heap.size w0 w') := by
  refine Calls.of_ok (n := 42) (F := (fun w => Kb w 1 (rowK .u32 64 kN) ∧ Kb w 0 #[(.int .u32 1779033703), (.int .u32 3144134277), (.int .u32 1013904242), (.int .u32 2773480762), (.int .u32 1359893119), (.int .u32 2600822924), (.int .u32 528734635), (.int .u32 1541459225)] ∧ True)) Tryd.func5 rfl rfl rfl (by simp) (hf0.pers0.and (hf1.pers0.and persT)) ?_
  refine sS Tryd.f5 5 [4, 5, 6, 7, 8] [] (fun ρ => [(pt (nb ρ 0)), (pt (nb ρ 1)), (pt (nb ρ 2)), (pt (nb ρ 3)), (.bool false)]) (fun ρ => [(0, { news := [(nb ρ 0, (.cells (cU x) 24 (0, 0)))] }), (1, { news := [(nb ρ 1, (.cells (cU p) 24 (0, 0)))] }), (2, { news := [(nb ρ 2, (.cells (hB m) 26 (0, 0)))] }), (3, { news := [(nb ρ 3, (.cells (cU E ++ cU S) 36 (0, 0)))] })]) (cR [[], [], [], [], []] <| cN) (fun _ => ?_)
  refine ok_seq ?_
  refine sD Tryd.f5 [0, 1, 3, 7, 7, 7, 63, 7, 7, 7, 1023, 2047, 4095] 13 [4, 6, 7, 8, 23] [1, 0, 1, 1] (fun _ => [(.bool true), (.bool false), (.bool false), (U p), (.agg (hB m)), (.agg (cU E ++ cU S)), (.bool (verB p m E S)), (U p), (.agg (hB m)), (.agg (cU E ++ cU S)), (.bool (verB p m E S)), (.bool false), (.bool false)]) (fun _ => []) (cX (o_callP _ 12 (fun _ => #[]) (fun _ => (.bool true)) (fun _ _ => (by kernel_rfl)) (fun _ => (by kernel_rfl)) (fun _ _ => (by kernel_rfl)) (fun _ _ => trivial) (fun _ _ w hG => ssane_any w hG.facts0.now.1 hG.facts0.now.2.1)) <| cR [[], [], [1], [2], [3]] <| cX (o_callP _ 21 (fun _ => #[(U p), (.agg (hB m)), (.agg (cU E ++ cU S))]) (fun _ => (.bool (verB p m E S))) (fun _ _ => (by kernel_rfl)) (fun _ => (by kernel_rfl)) (fun _ _ => (by kernel_rfl)) (fun _ _ => trivial) (fun _ _ w hG => verify_any p m E S hp hm hE hS w hG.facts0.now.1 hG.facts0.now.2.1)) <| cR [[1], [2], [3]] <| cC (fun _ w => rverify_any p m E S hp hm hE hS w) <| cA (v := fun ρ => (.bool ((verB p m E S) != (verB p m E S)))) (fun _ => (.bool false)) (fun _ => congrArg Value.bool (bne_self_eq_false _)) <| cR [[]] <| cN) (fun _ => ?_)
  refine oN ?_
  refine ok_skip ?_
  refine mt_then ?_
  refine sS Tryd.f5 8 [6, 7, 8, 9, 10] [0, 1, 1, 1] (fun ρ => [(U x), (.tuple #[(U q), (.int .i64 (pubE x))]), (.tuple #[(U q), (.int .i64 (pubE x))]), (U q), (.int .i64 (pubE x)), (pt (nb ρ 5)), undef, (.int .i64 (pubE x))]) (fun ρ => [(5, { news := [(nb ρ 5, (.cells (cU 0) 24 (0, 0)))] }), (6, { puts := [(43, nb ρ 5, (.cells (cU q) 24 (0, 0)))] })]) (cR [[0]] <| cX (o_callP _ 11 (fun _ => #[(U x)]) (fun _ => (.tuple #[(U q), (.int .i64 (pubE x))])) (fun _ _ => (by kernel_rfl)) (fun _ => (by kernel_rfl)) (fun _ _ => (by kernel_rfl)) (fun _ _ => trivial) (fun _ _ w _ => (by as_aux_lemma => (have hcall := (fun w => rpublic_any x hx w) w ; rw [eq] at hcall; exact hcall)))) <| cR [[], [], [], [], [43], []] <| cN) (fun _ => ?_)
  rcases Bool.eq_false_or_eq_true ((pubE x) != 0) with hb1 | hb1
  ·
    refine sD Tryd.f5 [0, 1, 3, 7, 7, 7, 63, 7, 7, 7, 1023, 2047, 4095, 8191] 14 [8] [0, 0, 0] (fun _ => [(.int .i64 (pubE x)), (.bool true), (.bool true), undef, undef, undef, undef, undef, undef, undef, undef, undef, (.bool true), (.bool true)]) (fun _ => []) (cR [[]] <| cA (fun _ => (.bool true)) (fun _ => congrArg Value.bool hb1) <| cR [[], [], [], [], [], [], [], [], [], [], [], []] <| cN) (fun _ => ?_)
    refine ok_ret ?_
    exact mR (v := (.bool true)) (fun _ hS => ⟨rfl, hS.below⟩)
  ·
    refine sD Tryd.f5 [0, 1, 3, 7, 7, 7, 63, 7, 7, 7, 1023, 2047, 4095, 8191] 14 [8] [0, 0, 0] (fun _ => [(.int .i64 (pubE x)), (.bool false), (.bool false), (U q), (.agg (hB m)), (.agg (cU E ++ cU S)), (.bool (verB q m E S)), (U q), (.agg (hB m)), (.agg (cU E ++ cU S)), (.bool (verB q m E S)), (.bool true), (.bool true), (.bool true)]) (fun _ => []) (cR [[]] <| cA (fun _ => (.bool false)) (fun _ => congrArg Value.bool hb1) <| cR [[], [2], [0], [1]] <| cX (o_callP _ 21 (fun _ => #[(U q), (.agg (hB m)), (.agg (cU E ++ cU S))]) (fun _ => (.bool (verB q m E S))) (fun _ _ => (by kernel_rfl)) (fun _ => (by kernel_rfl)) (fun _ _ => (by kernel_rfl)) (fun _ _ => trivial) (fun _ _ w hG => verify_any q m E S hq hm hE hS w hG.facts0.now.1 hG.facts0.now.2.1)) <| cR [[2], [0], [1]] <| cC (fun _ w => rverify_any q m E S hq hm hE hS w) <| cA (v := fun ρ => (.bool ((verB q m E S) == (verB q m E S)))) (fun _ => (.bool true)) (fun _ => congrArg Value.bool (beq_self_eq_true _)) <| cR [[], []] <| cN) (fun _ => ?_)
    refine ok_ret ?_
    exact mR (v := (.bool true)) (fun _ hS => ⟨rfl, hS.below⟩)
theorem signVerifies_any (x : Nat) (p : Nat) (m : Nat) (E : Nat) (S : Nat) (hx : x < M) (hp : p < M) (hm : m < M) (hE : E < M) (hS : S < M) (w0 : World) (hf0 : Kb w0 1 (rowK .u32 64 kN)) (hf1 : Kb w0 0 #[(.int .u32 1779033703), (.int .u32 3144134277), (.int .u32 1013904242), (.int .u32 2773480762), (.int .u32 1359893119), (.int .u32 2600822924), (.int .u32 528734635), (.int .u32 1541459225)]) : Calls Tryd.prog 5 #[(U x), (U p), (.agg (hB m)), (.agg (cU E ++ cU S))] w0 (fun ε w' => ε = .returned (.bool true) ∧ Below w0.heap.size w0 w') := signVerifiesw_any x p m E S (pubV x) hx hp hm hE hS (pubV_lt _) rfl w0 hf0 hf1
end Go.Proofs.YtoibhbmcplhiaaaDoor

/-! The statement SignVerifies: for every input the law returns true, and each argument reads behind the call as it read before. No condition. -/
namespace Go.Proofs.YtoibhbmcplhiaaaDoor.signVerifies
open Go.ChangeShapes Go.WideShapes Go.ChangeAt Go.RowKit

set_option maxRecDepth 100000 in
theorem lifted (os : Os) (started : os.Started) (H : Type) (enc : TypeId × Value → H) :
    ReturnsInHanded {} Tryd.checked os 5 .any (fun w args => (Rows.signVerifiesSpec.pre enc Tryd.prog Tryd.f5 Rows.signVerifiesRow.domain false w args ∧ laidMetH Tryd.prog shaLaid w) ∧ sizedMet enc Tryd.prog Tryd.f5 (OpenSpec.ofChange Rows.signVerifiesSpec) false w args) (Rows.signVerifiesSpec.post enc Tryd.prog Tryd.f5 false true false false) := by
  refine returnsInHanded_of_change_and (C := Tryd.checked) (X := fun w _ => laidMetH Tryd.prog shaLaid w) (fun _ _ _ hh h => h.of_heap hh) own started (by kernel_rfl) Tryd.func5
    (ChangeSpec.witness_shaped (enc := enc) (C := Tryd.checked) (os := os) (X := fun w _ => laidMetH Tryd.prog shaLaid w) false (World.doorLaid Tryd.prog 400 os) #[.agg #[.int .u64 0, .int .u64 0, .int .u64 0, .int .u64 0], .agg #[.int .u64 0, .int .u64 0, .int .u64 0, .int .u64 0], .agg #[.int .u8 0, .int .u8 0, .int .u8 0, .int .u8 0, .int .u8 0, .int .u8 0, .int .u8 0, .int .u8 0, .int .u8 0, .int .u8 0, .int .u8 0, .int .u8 0, .int .u8 0, .int .u8 0, .int .u8 0, .int .u8 0, .int .u8 0, .int .u8 0, .int .u8 0, .int .u8 0, .int .u8 0, .int .u8 0, .int .u8 0, .int .u8 0, .int .u8 0, .int .u8 0, .int .u8 0, .int .u8 0, .int .u8 0, .int .u8 0, .int .u8 0, .int .u8 0], .agg #[.int .u64 0, .int .u64 0, .int .u64 0, .int .u64 0, .int .u64 0, .int .u64 0, .int .u64 0, .int .u64 0]] 8 rfl (World.shaped_of_RefB (by kernel_rfl) (by kernel_rfl)) (by kernel_rfl) (by kernel_rfl) (by kernel_rfl) (door_met os _)) ?_
  intro W base args ds gs before hval0 hW hcnd hsz hL _
  have hval : ∀ (j : Nat) t v, Tryd.f5.params[j]? = some t → args[j]? = some v → Value.okWide Tryd.prog W .any base t v := hval0
  have hW' := hW
  obtain ⟨p, q, hA0, hV, rfl, hfz, hnd⟩ := hW
  have hA : DataW.TrodAll enc Tryd.prog W 0 (fun _ => true) true Tryd.f5.params.toList args.toList ds p := hA0
  rw [Tryd.params5] at hA hval
  obtain ⟨v0, vs0, d0, ds0, p0, q0, hargs, rfl, rfl, h0, r0⟩ := trodAll_cons hA
  obtain ⟨v1, vs1, d1, ds1, p1, q1, rfl, rfl, rfl, h1, r1⟩ := trodAll_cons r0
  obtain ⟨v2, vs2, d2, ds2, p2, q2, rfl, rfl, rfl, h2, r2⟩ := trodAll_cons r1
  obtain ⟨v3, vs3, d3, ds3, p3, q3, rfl, rfl, rfl, h3, r3⟩ := trodAll_cons r2
  obtain ⟨rfl, rfl, rfl⟩ := trodAll_nil r3
  obtain rfl : args = #[v0, v1, v2, v3] := by cases args; simp_all
  obtain ⟨rfl, rfl⟩ := trodVars_none hV
  have k0 := h0
  have lt0 : ∀ x ∈ p0, x.block < W.heap.size := by obtain ⟨m, hm⟩ := k0; exact DataW.trod_lt m _ _ _ hm
  have k1 := h1
  have lt1 : ∀ x ∈ p1, x.block < W.heap.size := by obtain ⟨m, hm⟩ := k1; exact DataW.trod_lt m _ _ _ hm
  have k2 := h2
  have lt2 : ∀ x ∈ p2, x.block < W.heap.size := by obtain ⟨m, hm⟩ := k2; exact DataW.trod_lt m _ _ _ hm
  have k3 := h3
  have lt3 : ∀ x ∈ p3, x.block < W.heap.size := by obtain ⟨m, hm⟩ := k3; exact DataW.trod_lt m _ _ _ hm
  obtain ⟨a0, w0, rfl⟩ := open_U (hval 0 24 v0 rfl rfl) h0
  obtain ⟨a1, w1, rfl⟩ := open_U (hval 1 24 v1 rfl rfl) h1
  obtain ⟨a2, w2, rfl⟩ := open_H (hval 2 26 v2 rfl rfl) h2
  obtain ⟨e3, s3, we3, ws3, rfl⟩ := open_us (hval 3 36 v3 rfl rfl) h3
  obtain ⟨hK, hI⟩ := laid_two hL
  clear hA0 hval0
  refine (signVerifies_any a0 a1 a2 e3 s3 w0 w1 w2 we3 ws3 W hK hI ).mono fun e W' ⟨he, bel⟩ => ?_
  subst he
  exact ⟨_, rfl, _, _, _, [], _, [], hW', trodAll_mk1 (shut_bool Tryd.underlying4 _), (trodAll_cons_mk (Below.trod laidOut (by kernel_rfl) (of_decide_eq_true (by kernel_rfl)) k0 bel lt0) (trodAll_cons_mk (Below.trod laidOut (by kernel_rfl) (of_decide_eq_true (by kernel_rfl)) k1 bel lt1) (trodAll_cons_mk (Below.trod laidOut (by kernel_rfl) (of_decide_eq_true (by kernel_rfl)) k2 bel lt2) (trodAll_cons_mk (Below.trod laidOut (by kernel_rfl) (of_decide_eq_true (by kernel_rfl)) k3 bel lt3) trodAll_mk0)))), rfl, bel.frame _, fun h => by cases h⟩

theorem over : Rows.signVerifiesRow.holds Tryd.pinned (OpenSpec.ofChange Rows.signVerifiesSpec) :=
  OpenClaim.holds_of_wide 5 Tryd.f5 rfl rfl rfl rfl rfl rfl rfl ⟨rfl, rfl, rfl, rfl, rfl⟩ rfl rfl rfl rfl rfl (by kernel_rfl) Tryd.func5 (by kernel_rfl)
    (of_decide_eq_true (by kernel_rfl)) (by unfold Func.isWrapper; first | (rw [if_pos (by decide +kernel)]; kernel_rfl) | (rw [if_neg (by decide +kernel)]; exact ⟨rfl, rfl⟩))
    (fun os started H enc _ => lifted os started H enc)

theorem proved : Rows.SignVerifiesCardSaid :=
  Claim7.holds_tied_plain_at .later [] [.data, .data] true (true, "eb7a91200f7007481ff23797ce9ebab1098146434ad0b594d56378fb3ce83737") false
    over (fun _ h => by cases h) (by kernel_rfl) (fun _ h => by cases h) signVerifies_row_tie rfl ⟨rfl, rfl⟩ (by kernel_rfl) rfl
    (fun f fn hf hfn => by
      obtain rfl : f = 5 := Option.some.inj ((show Tryd.prog.funcNamed "lightclient/lightclientlaw06.SignVerifies" = some 5 by kernel_rfl).symm.trans hf) |>.symm
      obtain rfl : fn = Tryd.f5 := (Option.some.inj (Tryd.func5.symm.trans hfn)).symm
      exact ⟨by kernel_rfl, fun j t ht => by
        rw [Tryd.params5] at ht
        rcases j with _ | _ | _ | _ | j
        · have ht2 : t = 24 := by simpa using ht.symm
          subst ht2
          exact (show Tryd.prog.wantsStandIn 24 = false by kernel_rfl)
        · have ht2 : t = 24 := by simpa using ht.symm
          subst ht2
          exact (show Tryd.prog.wantsStandIn 24 = false by kernel_rfl)
        · have ht2 : t = 26 := by simpa using ht.symm
          subst ht2
          exact (show Tryd.prog.wantsStandIn 26 = false by kernel_rfl)
        · have ht2 : t = 36 := by simpa using ht.symm
          subst ht2
          exact (show Tryd.prog.wantsStandIn 36 = false by kernel_rfl)
        · simp at ht⟩)
    (by kernel_rfl)
#print axioms proved
end Go.Proofs.YtoibhbmcplhiaaaDoor.signVerifies
