/-
  The statement SignSigns: for every input the law returns true, and each argument reads behind the call as it read before. No condition.
-/
import Derived.Test.YtoibhbmcplhiaaaDoorBase5
import Derived.Test.YtoibhbmcplhiaaaDoorRows
import Derived.Test.YtoibhbmcplhiaaaDoorCards
import Derived.Test.YtoibhbmcplhiaaaDoorTie
import Derived.SevenTiedAt
import Derived.LaidMore
import Derived.LaidHandle
import Derived.Stop.Joined
import Derived.WalkKit
import Derived.ProofKit
import Derived.OpenShut
import Derived.SizedLaws
set_option maxRecDepth 100000

/-! The law SignSigns: the walk. -/
namespace Go.Proofs.YtoibhbmcplhiaaaDoor
open Go Go.RowKit

theorem signSignsw_any (x : Nat) (m : Nat) (e : Nat) (s : Nat) (hx : x < M) (hm : m < M) (_he : e < M) (_hs : s < M) (ee : sigE x m = e) (es : sigS x m = s) (w0 : World) (hf0 : Kb w0 1 (rowK .u32 64 kN)) (hf1 : Kb w0 0 #[(.int .u32 1779033703), (.int .u32 3144134277), (.int .u32 1013904242), (.int .u32 2773480762), (.int .u32 1359893119), (.int .u32 2600822924), (.int .u32 528734635), (.int .u32 1541459225)]) : Calls Tryd.prog 4 #[(U x), (.agg (hB m))] w0 (fun ε w' => ε = .returned (.bool true) ∧ Below w0.heap.size w0 w') := by
  refine Calls.of_ok (n := 32) (F := (fun w => Kb w 1 (rowK .u32 64 kN) ∧ Kb w 0 #[(.int .u32 1779033703), (.int .u32 3144134277), (.int .u32 1013904242), (.int .u32 2773480762), (.int .u32 1359893119), (.int .u32 2600822924), (.int .u32 528734635), (.int .u32 1541459225)] ∧ True)) Tryd.func4 rfl rfl rfl (by simp) (hf0.pers0.and (hf1.pers0.and persT)) ?_
  refine sS Tryd.f4 3 [2, 3, 4] [] (fun ρ => [(pt (nb ρ 0)), (pt (nb ρ 1)), (.bool false)]) (fun ρ => [(0, { news := [(nb ρ 0, (.cells (cU x) 24 (0, 0)))] }), (1, { news := [(nb ρ 1, (.cells (hB m) 26 (0, 0)))] })]) (cR [[], [], []] <| cN) (fun _ => ?_)
  refine sS Tryd.f4 9 [2, 3, 4, 5, 6] [] (fun ρ => [(U x), (.agg (hB m)), (.tuple #[(.agg (cU e ++ cU s)), (.int .i64 (pubE x))]), (.tuple #[(.agg (cU e ++ cU s)), (.int .i64 (pubE x))]), (.agg (cU e ++ cU s)), (.int .i64 (pubE x)), (pt (nb ρ 6)), undef, (.int .i64 (pubE x))]) (fun ρ => [(6, { news := [(nb ρ 6, (.cells (cU 0 ++ cU 0) 36 (0, 0)))] }), (7, { puts := [(50, nb ρ 6, (.cells (cU e ++ cU s) 36 (0, 0)))] })]) (cR [[0], [1]] <| cX (o_callP _ 19 (fun _ => #[(U x), (.agg (hB m))]) (fun _ => (.tuple #[(.agg (cU e ++ cU s)), (.int .i64 (pubE x))])) (fun _ _ => (by kernel_rfl)) (fun _ => (by kernel_rfl)) (fun _ _ => (by kernel_rfl)) (fun _ _ => trivial) (fun _ _ w hG => (by as_aux_lemma => (have hcall := sign_any x m hx hm w hG.facts0.now.1 hG.facts0.now.2.1; rw [ee, es] at hcall; exact hcall)))) <| cR [[], [], [], [], [50], []] <| cN) (fun _ => ?_)
  refine sS Tryd.f4 9 [4, 5, 6, 7, 8] [0, 0, 1, 1] (fun ρ => [(U x), (.agg (hB m)), (.tuple #[(.agg (cU e ++ cU s)), (.int .i64 (pubE x))]), (.tuple #[(.agg (cU e ++ cU s)), (.int .i64 (pubE x))]), (.agg (cU e ++ cU s)), (.int .i64 (pubE x)), (pt (nb ρ 6)), undef, (.int .i64 (pubE x))]) (fun ρ => [(6, { news := [(nb ρ 6, (.cells (cU 0 ++ cU 0) 36 (0, 0)))] }), (7, { puts := [(51, nb ρ 6, (.cells (cU e ++ cU s) 36 (0, 0)))] })]) (cR [[0], [1]] <| cX (o_callP _ 20 (fun _ => #[(U x), (.agg (hB m))]) (fun _ => (.tuple #[(.agg (cU e ++ cU s)), (.int .i64 (pubE x))])) (fun _ _ => (by kernel_rfl)) (fun _ => (by kernel_rfl)) (fun _ _ => (by kernel_rfl)) (fun _ _ => trivial) (fun _ _ w _ => (by as_aux_lemma => (have hcall := (fun w => rsign_any x m hx hm w) w ; rw [ee, es] at hcall; exact hcall)))) <| cR [[], [], [], [], [51], []] <| cN) (fun _ => ?_)
  refine sS Tryd.f4 12 [4] [0, 0] (fun _ => [(.bool true), (.bool true), (.agg (cU e ++ cU s)), (.agg (cU e ++ cU s)), (.bool true), (.bool true), (.bool true), (.int .i64 (pubE x)), (.int .i64 (pubE x)), (.bool true), (.bool true), (.bool true)]) (fun _ => []) (cX (o_callP _ 12 (fun _ => #[]) (fun _ => (.bool true)) (fun _ _ => (by kernel_rfl)) (fun _ => (by kernel_rfl)) (fun _ _ => (by kernel_rfl)) (fun _ _ => trivial) (fun _ _ w hG => ssane_any w hG.facts0.now.1 hG.facts0.now.2.1)) <| cR [[], [0], [1]] <| cB (a := fun ρ => (.agg (cU e ++ cU s))) (b := fun ρ => (.agg (cU e ++ cU s))) (v := fun ρ => (.bool true)) .eql 36 (fun _ w => eql_same w) <| cR [[], [], [], []] <| cA (v := fun ρ => (.bool ((pubE x) == (pubE x)))) (fun _ => (.bool true)) (fun _ => congrArg Value.bool (beq_self_eq_true _)) <| cR [[], []] <| cN) (fun _ => ?_)
  refine ok_ret ?_
  exact mR (v := (.bool true)) (fun _ hS => ⟨rfl, hS.below⟩)
theorem signSigns_any (x : Nat) (m : Nat) (hx : x < M) (hm : m < M) (w0 : World) (hf0 : Kb w0 1 (rowK .u32 64 kN)) (hf1 : Kb w0 0 #[(.int .u32 1779033703), (.int .u32 3144134277), (.int .u32 1013904242), (.int .u32 2773480762), (.int .u32 1359893119), (.int .u32 2600822924), (.int .u32 528734635), (.int .u32 1541459225)]) : Calls Tryd.prog 4 #[(U x), (.agg (hB m))] w0 (fun ε w' => ε = .returned (.bool true) ∧ Below w0.heap.size w0 w') := signSignsw_any x m (sigE x m) (sigS x m) hx hm (sigE_lt _ _) (sigS_lt _ _) rfl rfl w0 hf0 hf1
end Go.Proofs.YtoibhbmcplhiaaaDoor

/-! The statement SignSigns: for every input the law returns true, and each argument reads behind the call as it read before. No condition. -/
namespace Go.Proofs.YtoibhbmcplhiaaaDoor.signSigns
open Go.ChangeShapes Go.WideShapes Go.ChangeAt Go.RowKit

set_option maxRecDepth 100000 in
theorem lifted (os : Os) (started : os.Started) (H : Type) (enc : TypeId × Value → H) :
    ReturnsInHanded {} Tryd.checked os 4 .any (fun w args => (Rows.signSignsSpec.pre enc Tryd.prog Tryd.f4 Rows.signSignsRow.domain false w args ∧ laidMetH Tryd.prog shaLaid w) ∧ sizedMet enc Tryd.prog Tryd.f4 (OpenSpec.ofChange Rows.signSignsSpec) false w args) (Rows.signSignsSpec.post enc Tryd.prog Tryd.f4 false true false false) := by
  refine returnsInHanded_of_change_and (C := Tryd.checked) (X := fun w _ => laidMetH Tryd.prog shaLaid w) (fun _ _ _ hh h => h.of_heap hh) own started (by kernel_rfl) Tryd.func4
    (ChangeSpec.witness_shaped (enc := enc) (C := Tryd.checked) (os := os) (X := fun w _ => laidMetH Tryd.prog shaLaid w) false (World.doorLaid Tryd.prog 400 os) #[.agg #[.int .u64 0, .int .u64 0, .int .u64 0, .int .u64 0], .agg #[.int .u8 0, .int .u8 0, .int .u8 0, .int .u8 0, .int .u8 0, .int .u8 0, .int .u8 0, .int .u8 0, .int .u8 0, .int .u8 0, .int .u8 0, .int .u8 0, .int .u8 0, .int .u8 0, .int .u8 0, .int .u8 0, .int .u8 0, .int .u8 0, .int .u8 0, .int .u8 0, .int .u8 0, .int .u8 0, .int .u8 0, .int .u8 0, .int .u8 0, .int .u8 0, .int .u8 0, .int .u8 0, .int .u8 0, .int .u8 0, .int .u8 0, .int .u8 0]] 8 rfl (World.shaped_of_RefB (by kernel_rfl) (by kernel_rfl)) (by kernel_rfl) (by kernel_rfl) (by kernel_rfl) (door_met os _)) ?_
  intro W base args ds gs before hval0 hW hcnd hsz hL _
  have hval : ∀ (j : Nat) t v, Tryd.f4.params[j]? = some t → args[j]? = some v → Value.okWide Tryd.prog W .any base t v := hval0
  have hW' := hW
  obtain ⟨p, q, hA0, hV, rfl, hfz, hnd⟩ := hW
  have hA : DataW.TrodAll enc Tryd.prog W 0 (fun _ => true) true Tryd.f4.params.toList args.toList ds p := hA0
  rw [Tryd.params4] at hA hval
  obtain ⟨v0, vs0, d0, ds0, p0, q0, hargs, rfl, rfl, h0, r0⟩ := trodAll_cons hA
  obtain ⟨v1, vs1, d1, ds1, p1, q1, rfl, rfl, rfl, h1, r1⟩ := trodAll_cons r0
  obtain ⟨rfl, rfl, rfl⟩ := trodAll_nil r1
  obtain rfl : args = #[v0, v1] := by cases args; simp_all
  obtain ⟨rfl, rfl⟩ := trodVars_none hV
  have k0 := h0
  have lt0 : ∀ x ∈ p0, x.block < W.heap.size := by obtain ⟨m, hm⟩ := k0; exact DataW.trod_lt m _ _ _ hm
  have k1 := h1
  have lt1 : ∀ x ∈ p1, x.block < W.heap.size := by obtain ⟨m, hm⟩ := k1; exact DataW.trod_lt m _ _ _ hm
  obtain ⟨a0, w0, rfl⟩ := open_U (hval 0 24 v0 rfl rfl) h0
  obtain ⟨a1, w1, rfl⟩ := open_H (hval 1 26 v1 rfl rfl) h1
  obtain ⟨hK, hI⟩ := laid_two hL
  clear hA0 hval0
  refine (signSigns_any a0 a1 w0 w1 W hK hI ).mono fun e W' ⟨he, bel⟩ => ?_
  subst he
  exact ⟨_, rfl, _, _, _, [], _, [], hW', trodAll_mk1 (shut_bool Tryd.underlying4 _), (trodAll_cons_mk (Below.trod laidOut (by kernel_rfl) (of_decide_eq_true (by kernel_rfl)) k0 bel lt0) (trodAll_cons_mk (Below.trod laidOut (by kernel_rfl) (of_decide_eq_true (by kernel_rfl)) k1 bel lt1) trodAll_mk0)), rfl, bel.frame _, fun h => by cases h⟩

theorem over : Rows.signSignsRow.holds Tryd.pinned (OpenSpec.ofChange Rows.signSignsSpec) :=
  OpenClaim.holds_of_wide 4 Tryd.f4 rfl rfl rfl rfl rfl rfl rfl ⟨rfl, rfl, rfl, rfl, rfl⟩ rfl rfl rfl rfl rfl (by kernel_rfl) Tryd.func4 (by kernel_rfl)
    (of_decide_eq_true (by kernel_rfl)) (by unfold Func.isWrapper; first | (rw [if_pos (by decide +kernel)]; kernel_rfl) | (rw [if_neg (by decide +kernel)]; exact ⟨rfl, rfl⟩))
    (fun os started H enc _ => lifted os started H enc)

theorem proved : Rows.SignSignsCardSaid :=
  Claim7.holds_tied_plain_at .later [] [.data, .data] true (true, "eb7a91200f7007481ff23797ce9ebab1098146434ad0b594d56378fb3ce83737") false
    over (fun _ h => by cases h) (by kernel_rfl) (fun _ h => by cases h) signSigns_row_tie rfl ⟨rfl, rfl⟩ (by kernel_rfl) rfl
    (fun f fn hf hfn => by
      obtain rfl : f = 4 := Option.some.inj ((show Tryd.prog.funcNamed "lightclient/lightclientlaw06.SignSigns" = some 4 by kernel_rfl).symm.trans hf) |>.symm
      obtain rfl : fn = Tryd.f4 := (Option.some.inj (Tryd.func4.symm.trans hfn)).symm
      exact ⟨by kernel_rfl, fun j t ht => by
        rw [Tryd.params4] at ht
        rcases j with _ | _ | j
        · have ht2 : t = 24 := by simpa using ht.symm
          subst ht2
          exact (show Tryd.prog.wantsStandIn 24 = false by kernel_rfl)
        · have ht2 : t = 26 := by simpa using ht.symm
          subst ht2
          exact (show Tryd.prog.wantsStandIn 26 = false by kernel_rfl)
        · simp at ht⟩)
    (by kernel_rfl)
#print axioms proved
end Go.Proofs.YtoibhbmcplhiaaaDoor.signSigns
