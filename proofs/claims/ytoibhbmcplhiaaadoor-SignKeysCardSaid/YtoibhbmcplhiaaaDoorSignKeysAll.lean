/-
  The statement SignKeys: for every input the law returns true, and each argument reads behind the call as it read before. No condition.
-/
import Derived.Test.YtoibhbmcplhiaaaDoorBase5
import Derived.Test.YtoibhbmcplhiaaaDoorRows
import Derived.Test.YtoibhbmcplhiaaaDoorCards
import Derived.Test.YtoibhbmcplhiaaaDoorTie
import Derived.SevenTiedAt
import Derived.LaidMore
import Derived.LaidHandle
import Derived.Stop.Joined
import Derived.WalkKit
import Derived.ProofKit
import Derived.OpenShut
import Derived.SizedLaws
set_option maxRecDepth 100000

/-! The law SignKeys: the walk. -/
namespace Go.Proofs.YtoibhbmcplhiaaaDoor
open Go Go.RowKit

theorem signKeysw_any (x : Nat) (r : Nat) (m : Nat) (p : Nat) (n : Nat) (c : Nat) (hx : x < M) (hr : r < M) (hm : m < M) (hp : p < M) (hn : n < M) (hc : c < M) (ep : pubV x = p) (en : nonN x m = n) (ec : chaN r x m = c) (w0 : World) (hf0 : Kb w0 1 (rowK .u32 64 kN)) (hf1 : Kb w0 0 #[(.int .u32 1779033703), (.int .u32 3144134277), (.int .u32 1013904242), (.int .u32 2773480762), (.int .u32 1359893119), (.int .u32 2600822924), (.int .u32 528734635), (.int .u32 1541459225)]) : Calls Tryd.prog 3 #[(U x), (U r), (.agg (hB m))] w0 (fun ε w' => ε = .returned (.bool true) ∧ Below w0.heap.size w0 w') := by
  refine Calls.of_ok (n := 59) (F := (fun w => Kb w 1 (rowK .u32 64 kN) ∧ Kb w 0 #[(.int .u32 1779033703), (.int .u32 3144134277), (.int .u32 1013904242), (.int .u32 2773480762), (.int .u32 1359893119), (.int .u32 2600822924), (.int .u32 528734635), (.int .u32 1541459225)] ∧ True)) Tryd.func3 rfl rfl rfl (by simp) (hf0.pers0.and (hf1.pers0.and persT)) ?_
  refine sS Tryd.f3 4 [3, 4, 5, 6] [] (fun ρ => [(pt (nb ρ 0)), (pt (nb ρ 1)), (pt (nb ρ 2)), (.bool false)]) (fun ρ => [(0, { news := [(nb ρ 0, (.cells (cU x) 24 (0, 0)))] }), (1, { news := [(nb ρ 1, (.cells (cU r) 24 (0, 0)))] }), (2, { news := [(nb ρ 2, (.cells (hB m) 26 (0, 0)))] })]) (cR [[], [], [], []] <| cN) (fun _ => ?_)
  refine sS Tryd.f3 8 [3, 4, 5, 6, 7, 8] [] (fun ρ => [(U x), (.tuple #[(U p), (.int .i64 (pubE x))]), (.tuple #[(U p), (.int .i64 (pubE x))]), (U p), (.int .i64 (pubE x)), (pt (nb ρ 5)), undef, (.int .i64 (pubE x))]) (fun ρ => [(5, { news := [(nb ρ 5, (.cells (cU 0) 24 (0, 0)))] }), (6, { puts := [(43, nb ρ 5, (.cells (cU p) 24 (0, 0)))] })]) (cR [[0]] <| cX (o_callP _ 10 (fun _ => #[(U x)]) (fun _ => (.tuple #[(U p), (.int .i64 (pubE x))])) (fun _ _ => (by kernel_rfl)) (fun _ => (by kernel_rfl)) (fun _ _ => (by kernel_rfl)) (fun _ _ => trivial) (fun _ _ w _ => (by as_aux_lemma => (have hcall := (fun w => public_any x hx w) w ; rw [ep] at hcall; exact hcall)))) <| cR [[], [], [], [], [43], []] <| cN) (fun _ => ?_)
  refine sS Tryd.f3 8 [3, 4, 5, 6, 7, 8, 9, 10] [] (fun ρ => [(U x), (.tuple #[(U p), (.int .i64 (pubE x))]), (.tuple #[(U p), (.int .i64 (pubE x))]), (U p), (.int .i64 (pubE x)), (pt (nb ρ 5)), undef, (.int .i64 (pubE x))]) (fun ρ => [(5, { news := [(nb ρ 5, (.cells (cU 0) 24 (0, 0)))] }), (6, { puts := [(44, nb ρ 5, (.cells (cU p) 24 (0, 0)))] })]) (cR [[0]] <| cX (o_callP _ 11 (fun _ => #[(U x)]) (fun _ => (.tuple #[(U p), (.int .i64 (pubE x))])) (fun _ _ => (by kernel_rfl)) (fun _ => (by kernel_rfl)) (fun _ _ => (by kernel_rfl)) (fun _ _ => trivial) (fun _ _ w _ => (by as_aux_lemma => (have hcall := (fun w => rpublic_any x hx w) w ; rw [ep] at hcall; exact hcall)))) <| cR [[], [], [], [], [44], []] <| cN) (fun _ => ?_)
  refine sD Tryd.f3 [0, 1, 3, 3, 15, 31, 63, 127, 127, 511, 1023, 2047, 4095, 8191, 4095, 32767, 65535, 131071, 262143, 524287, 524287, 2097151, 524287, 524287, 16777215, 33554431, 67108863, 134217727, 268435455, 268435455, 268435455, 2147483647, 268435455, 268435455, 268435455, 34359738367, 68719476735, 137438953471, 274877906943] 39 [6] [0, 0, 0, 0, 0] (fun _ => [(.bool true), (.bool true), (U p), (U p), (.bool true), (.bool true), (.bool true), (.int .i64 (pubE x)), (.int .i64 (pubE x)), (.bool true), (.bool true), (.bool true), (U r), (.bool (valB r)), (U r), (.bool (valB r)), (.bool true), (.bool true), (.bool true), (U x), (.agg (hB m)), (U n), (U x), (.agg (hB m)), (U n), (.bool true), (.bool true), (.bool true), (U r), (U x), (.agg (hB m)), (U c), (U r), (U x), (.agg (hB m)), (U c), (.bool true), (.bool true), (.bool true)]) (fun _ => []) (cX (o_callP _ 12 (fun _ => #[]) (fun _ => (.bool true)) (fun _ _ => (by kernel_rfl)) (fun _ => (by kernel_rfl)) (fun _ _ => (by kernel_rfl)) (fun _ _ => trivial) (fun _ _ w hG => ssane_any w hG.facts0.now.1 hG.facts0.now.2.1)) <| cR [[], [3], [4]] <| cB (a := fun ρ => (U p)) (b := fun ρ => (U p)) (v := fun ρ => (.bool true)) .eql 24 (fun _ _ => eqlU_same p hp _) <| cR [[], [], [], []] <| cA (v := fun ρ => (.bool ((pubE x) == (pubE x)))) (fun _ => (.bool true)) (fun _ => congrArg Value.bool (beq_self_eq_true _)) <| cR [[], [], [1]] <| cC (fun _ w => valid_any r hr w) <| cR [[1]] <| cC (fun _ w => rvalid_any r hr w) <| cA (v := fun ρ => (.bool ((valB r) == (valB r)))) (fun _ => (.bool true)) (fun _ => congrArg Value.bool (beq_self_eq_true _)) <| cR [[], [], [0], [2]] <| cX (o_callP _ 15 (fun _ => #[(U x), (.agg (hB m))]) (fun _ => (U n)) (fun _ _ => (by kernel_rfl)) (fun _ => (by kernel_rfl)) (fun _ _ => (by kernel_rfl)) (fun _ _ => trivial) (fun _ _ w hG => (by as_aux_lemma => (have hcall := nonce_any x m hx hm w hG.facts0.now.1 hG.facts0.now.2.1; rw [en] at hcall; exact hcall)))) <| cR [[0], [2]] <| cX (o_callP _ 16 (fun _ => #[(U x), (.agg (hB m))]) (fun _ => (U n)) (fun _ _ => (by kernel_rfl)) (fun _ => (by kernel_rfl)) (fun _ _ => (by kernel_rfl)) (fun _ _ => trivial) (fun _ _ w _ => (by as_aux_lemma => (have hcall := (fun w => rnonce_any x m hx hm w) w ; rw [en] at hcall; exact hcall)))) <| cB (a := fun ρ => (U n)) (b := fun ρ => (U n)) (v := fun ρ => (.bool true)) .eql 24 (fun _ _ => eqlU_same n hn _) <| cR [[], [], [1], [0], [2]] <| cX (o_callP _ 17 (fun _ => #[(U r), (U x), (.agg (hB m))]) (fun _ => (U c)) (fun _ _ => (by kernel_rfl)) (fun _ => (by kernel_rfl)) (fun _ _ => (by kernel_rfl)) (fun _ _ => trivial) (fun _ _ w hG => (by as_aux_lemma => (have hcall := challenge_any r x m hr hx hm w hG.facts0.now.1 hG.facts0.now.2.1; rw [ec] at hcall; exact hcall)))) <| cR [[1], [0], [2]] <| cX (o_callP _ 18 (fun _ => #[(U r), (U x), (.agg (hB m))]) (fun _ => (U c)) (fun _ _ => (by kernel_rfl)) (fun _ => (by kernel_rfl)) (fun _ _ => (by kernel_rfl)) (fun _ _ => trivial) (fun _ _ w _ => (by as_aux_lemma => (have hcall := (fun w => rchallenge_any r x m hr hx hm w) w ; rw [ec] at hcall; exact hcall)))) <| cB (a := fun ρ => (U c)) (b := fun ρ => (U c)) (v := fun ρ => (.bool true)) .eql 24 (fun _ _ => eqlU_same c hc _) <| cR [[], []] <| cN) (fun _ => ?_)
  refine ok_ret ?_
  exact mR (v := (.bool true)) (fun _ hS => ⟨rfl, hS.below⟩)
theorem signKeys_any (x : Nat) (r : Nat) (m : Nat) (hx : x < M) (hr : r < M) (hm : m < M) (w0 : World) (hf0 : Kb w0 1 (rowK .u32 64 kN)) (hf1 : Kb w0 0 #[(.int .u32 1779033703), (.int .u32 3144134277), (.int .u32 1013904242), (.int .u32 2773480762), (.int .u32 1359893119), (.int .u32 2600822924), (.int .u32 528734635), (.int .u32 1541459225)]) : Calls Tryd.prog 3 #[(U x), (U r), (.agg (hB m))] w0 (fun ε w' => ε = .returned (.bool true) ∧ Below w0.heap.size w0 w') := signKeysw_any x r m (pubV x) (nonN x m) (chaN r x m) hx hr hm (pubV_lt _) (nonN_lt _ _) (chaN_lt _ _ _) rfl rfl rfl w0 hf0 hf1
end Go.Proofs.YtoibhbmcplhiaaaDoor

/-! The statement SignKeys: for every input the law returns true, and each argument reads behind the call as it read before. No condition. -/
namespace Go.Proofs.YtoibhbmcplhiaaaDoor.signKeys
open Go.ChangeShapes Go.WideShapes Go.ChangeAt Go.RowKit

set_option maxRecDepth 100000 in
theorem lifted (os : Os) (started : os.Started) (H : Type) (enc : TypeId × Value → H) :
    ReturnsInHanded {} Tryd.checked os 3 .any (fun w args => (Rows.signKeysSpec.pre enc Tryd.prog Tryd.f3 Rows.signKeysRow.domain false w args ∧ laidMetH Tryd.prog shaLaid w) ∧ sizedMet enc Tryd.prog Tryd.f3 (OpenSpec.ofChange Rows.signKeysSpec) false w args) (Rows.signKeysSpec.post enc Tryd.prog Tryd.f3 false true false false) := by
  refine returnsInHanded_of_change_and (C := Tryd.checked) (X := fun w _ => laidMetH Tryd.prog shaLaid w) (fun _ _ _ hh h => h.of_heap hh) own started (by kernel_rfl) Tryd.func3
    (ChangeSpec.witness_shaped (enc := enc) (C := Tryd.checked) (os := os) (X := fun w _ => laidMetH Tryd.prog shaLaid w) false (World.doorLaid Tryd.prog 400 os) #[.agg #[.int .u64 0, .int .u64 0, .int .u64 0, .int .u64 0], .agg #[.int .u64 0, .int .u64 0, .int .u64 0, .int .u64 0], .agg #[.int .u8 0, .int .u8 0, .int .u8 0, .int .u8 0, .int .u8 0, .int .u8 0, .int .u8 0, .int .u8 0, .int .u8 0, .int .u8 0, .int .u8 0, .int .u8 0, .int .u8 0, .int .u8 0, .int .u8 0, .int .u8 0, .int .u8 0, .int .u8 0, .int .u8 0, .int .u8 0, .int .u8 0, .int .u8 0, .int .u8 0, .int .u8 0, .int .u8 0, .int .u8 0, .int .u8 0, .int .u8 0, .int .u8 0, .int .u8 0, .int .u8 0, .int .u8 0]] 8 rfl (World.shaped_of_RefB (by kernel_rfl) (by kernel_rfl)) (by kernel_rfl) (by kernel_rfl) (by kernel_rfl) (door_met os _)) ?_
  intro W base args ds gs before hval0 hW hcnd hsz hL _
  have hval : ∀ (j : Nat) t v, Tryd.f3.params[j]? = some t → args[j]? = some v → Value.okWide Tryd.prog W .any base t v := hval0
  have hW' := hW
  obtain ⟨p, q, hA0, hV, rfl, hfz, hnd⟩ := hW
  have hA : DataW.TrodAll enc Tryd.prog W 0 (fun _ => true) true Tryd.f3.params.toList args.toList ds p := hA0
  rw [Tryd.params3] at hA hval
  obtain ⟨v0, vs0, d0, ds0, p0, q0, hargs, rfl, rfl, h0, r0⟩ := trodAll_cons hA
  obtain ⟨v1, vs1, d1, ds1, p1, q1, rfl, rfl, rfl, h1, r1⟩ := trodAll_cons r0
  obtain ⟨v2, vs2, d2, ds2, p2, q2, rfl, rfl, rfl, h2, r2⟩ := trodAll_cons r1
  obtain ⟨rfl, rfl, rfl⟩ := trodAll_nil r2
  obtain rfl : args = #[v0, v1, v2] := by cases args; simp_all
  obtain ⟨rfl, rfl⟩ := trodVars_none hV
  have k0 := h0
  have lt0 : ∀ x ∈ p0, x.block < W.heap.size := by obtain ⟨m, hm⟩ := k0; exact DataW.trod_lt m _ _ _ hm
  have k1 := h1
  have lt1 : ∀ x ∈ p1, x.block < W.heap.size := by obtain ⟨m, hm⟩ := k1; exact DataW.trod_lt m _ _ _ hm
  have k2 := h2
  have lt2 : ∀ x ∈ p2, x.block < W.heap.size := by obtain ⟨m, hm⟩ := k2; exact DataW.trod_lt m _ _ _ hm
  obtain ⟨a0, w0, rfl⟩ := open_U (hval 0 24 v0 rfl rfl) h0
  obtain ⟨a1, w1, rfl⟩ := open_U (hval 1 24 v1 rfl rfl) h1
  obtain ⟨a2, w2, rfl⟩ := open_H (hval 2 26 v2 rfl rfl) h2
  obtain ⟨hK, hI⟩ := laid_two hL
  clear hA0 hval0
  refine (signKeys_any a0 a1 a2 w0 w1 w2 W hK hI ).mono fun e W' ⟨he, bel⟩ => ?_
  subst he
  exact ⟨_, rfl, _, _, _, [], _, [], hW', trodAll_mk1 (shut_bool Tryd.underlying4 _), (trodAll_cons_mk (Below.trod laidOut (by kernel_rfl) (of_decide_eq_true (by kernel_rfl)) k0 bel lt0) (trodAll_cons_mk (Below.trod laidOut (by kernel_rfl) (of_decide_eq_true (by kernel_rfl)) k1 bel lt1) (trodAll_cons_mk (Below.trod laidOut (by kernel_rfl) (of_decide_eq_true (by kernel_rfl)) k2 bel lt2) trodAll_mk0))), rfl, bel.frame _, fun h => by cases h⟩

theorem over : Rows.signKeysRow.holds Tryd.pinned (OpenSpec.ofChange Rows.signKeysSpec) :=
  OpenClaim.holds_of_wide 3 Tryd.f3 rfl rfl rfl rfl rfl rfl rfl ⟨rfl, rfl, rfl, rfl, rfl⟩ rfl rfl rfl rfl rfl (by kernel_rfl) Tryd.func3 (by kernel_rfl)
    (of_decide_eq_true (by kernel_rfl)) (by unfold Func.isWrapper; first | (rw [if_pos (by decide +kernel)]; kernel_rfl) | (rw [if_neg (by decide +kernel)]; exact ⟨rfl, rfl⟩))
    (fun os started H enc _ => lifted os started H enc)

theorem proved : Rows.SignKeysCardSaid :=
  Claim7.holds_tied_plain_at .later [] [.data, .data] true (true, "eb7a91200f7007481ff23797ce9ebab1098146434ad0b594d56378fb3ce83737") false
    over (fun _ h => by cases h) (by kernel_rfl) (fun _ h => by cases h) signKeys_row_tie rfl ⟨rfl, rfl⟩ (by kernel_rfl) rfl
    (fun f fn hf hfn => by
      obtain rfl : f = 3 := Option.some.inj ((show Tryd.prog.funcNamed "lightclient/lightclientlaw06.SignKeys" = some 3 by kernel_rfl).symm.trans hf) |>.symm
      obtain rfl : fn = Tryd.f3 := (Option.some.inj (Tryd.func3.symm.trans hfn)).symm
      exact ⟨by kernel_rfl, fun j t ht => by
        rw [Tryd.params3] at ht
        rcases j with _ | _ | _ | j
        · have ht2 : t = 24 := by simpa using ht.symm
          subst ht2
          exact (show Tryd.prog.wantsStandIn 24 = false by kernel_rfl)
        · have ht2 : t = 24 := by simpa using ht.symm
          subst ht2
          exact (show Tryd.prog.wantsStandIn 24 = false by kernel_rfl)
        · have ht2 : t = 26 := by simpa using ht.symm
          subst ht2
          exact (show Tryd.prog.wantsStandIn 26 = false by kernel_rfl)
        · simp at ht⟩)
    (by kernel_rfl)
#print axioms proved
end Go.Proofs.YtoibhbmcplhiaaaDoor.signKeys
