/-
  The statement DescriptorValid: for every input the law returns true, and each argument reads behind the call as it read before. No condition.
-/
import Derived.Test.YtlkbhiaoolddmaaDoorBase6
import Derived.Test.YtlkbhiaoolddmaaDoorRows
import Derived.Test.YtlkbhiaoolddmaaDoorCards
import Derived.Test.YtlkbhiaoolddmaaDoorTie
import Derived.SevenTiedAt
import Derived.LaidMore
import Derived.LaidHandle
import Derived.Stop.Joined
import Derived.WalkKit
import Derived.ProofKit
import Derived.OpenShut
import Derived.SizedLaws
set_option maxRecDepth 100000

/-! The law DescriptorValid: the walk. -/
namespace Go.Proofs.YtlkbhiaoolddmaaDoor
open Go Go.RowKit

theorem descriptorValid_any (a : Option Addr) (c : Nat) (zs : List Int) (wh : Int) (ta : Int) (kk : Int) (hz : Z64 zs) (hwh : -9223372036854775808 ≤ wh ∧ wh < 9223372036854775808) (hta : -9223372036854775808 ≤ ta ∧ ta < 9223372036854775808) (hkk : -9223372036854775808 ≤ kk ∧ kk < 9223372036854775808) (w0 : World) (hf0 : Kb w0 1 (rowK .u32 64 kN)) (hf1 : Kb w0 0 #[(.int .u32 1779033703), (.int .u32 3144134277), (.int .u32 1013904242), (.int .u32 2773480762), (.int .u32 1359893119), (.int .u32 2600822924), (.int .u32 528734635), (.int .u32 1541459225)]) (hf2 : Is w0 .i64 a c zs) : Calls Tryd.prog 3 #[(.slice a (zs).length c), (.int .i64 wh), (.int .i64 ta), (.int .i64 kk)] w0 (fun ε w' => ε = .returned (.bool true) ∧ Below w0.heap.size w0 w') := by
  refine Calls.of_ok (n := 62) (F := (fun w => Kb w 1 (rowK .u32 64 kN) ∧ Kb w 0 #[(.int .u32 1779033703), (.int .u32 3144134277), (.int .u32 1013904242), (.int .u32 2773480762), (.int .u32 1359893119), (.int .u32 2600822924), (.int .u32 528734635), (.int .u32 1541459225)] ∧ Is w .i64 a c zs ∧ True)) Tryd.func3 rfl rfl rfl (by simp) (hf0.pers0.and (hf1.pers0.and (hf2.pers0.and persT))) ?_
  refine sS Tryd.f3 1 [0, 1, 2, 3, 8] [] (fun _ => [(.bool false)]) (fun _ => []) (cR [[]] <| cN) (fun _ => ?_)
  refine ok_seq ?_
  refine sS Tryd.f3 2 [0, 1, 2, 3, 8, 12] [] (fun _ => [(.bool true), (.bool false)]) (fun _ => []) (cX (o_callP _ 4 (fun _ => #[]) (fun _ => (.bool true)) (fun _ _ => (by kernel_rfl)) (fun _ => (by kernel_rfl)) (fun _ _ => (by kernel_rfl)) (fun _ _ => trivial) (fun _ _ w hG => dsane_any w hG.facts0.now.1 hG.facts0.now.2.1)) <| cR [[]] <| cN) (fun _ => ?_)
  refine oN ?_
  refine ok_skip ?_
  refine mt_then ?_
  refine sSf Tryd.f3 4 [1, 2, 3, 8, 9] [0] (fun ρ => [(.slice a (zs).length c), (pt (nb ρ 1)), (.slice (oa ρ 2) (ot ρ 2).length (nb ρ 2)), (.slice (oa ρ 2) (ot ρ 2).length (nb ρ 2))]) (fun ρ => [(1, { news := [(nb ρ 1, (.cells #[(.slice a (zs).length c), (.int .i64 ((pN zs 0 : Nat) : Int))] 51 (0, 0)))] }), (2, { puts := [(8, nb ρ 1, (.cells #[(.slice a (zs).length c), (.int .i64 ((pN zs (nb2 ρ 2) : Nat) : Int))] 51 (0, 0)))] })]) (fun ρ => [(2, fun w => TmN w (oa ρ 2) (nb ρ 2) (ot ρ 2))]) (fun ρ => (fun w => Kb w 1 (rowK .u32 64 kN) ∧ Kb w 0 #[(.int .u32 1779033703), (.int .u32 3144134277), (.int .u32 1013904242), (.int .u32 2773480762), (.int .u32 1359893119), (.int .u32 2600822924), (.int .u32 528734635), (.int .u32 1541459225)] ∧ Is w .i64 a c zs ∧ TmN w (oa ρ 2) (nb ρ 2) (ot ρ 2) ∧ True)) (fun _ => True) (fun _ _ hF hf => ⟨⟨hF.1, hF.2.1, hF.2.2.1, hf 2, trivial⟩, trivial⟩) (cR [[]] <| cX (o_callN _ 6 (fun _ => #[(.slice a (zs).length c)]) (fun _ z => (pt z)) (fun _ => (.cells #[(.slice a (zs).length c), (.int .i64 ((pN zs 0 : Nat) : Int))] 51 (0, 0))) (fun _ _ => (by kernel_rfl)) (fun _ _ => (by kernel_rfl)) (fun _ _ => (by kernel_rfl)) (fun _ _ => trivial) (fun _ _ w hG => mnew_any a c zs w hG.facts0.now.2.2.1)) <| cX (o_callWT _ [8] 5 (fun ρ => #[(pt (nb ρ 1))]) (fun _ α κ τs => (.slice α (τs).length κ)) (fun ρ => [(nb ρ 1, (.cells #[(.slice a (zs).length c), (.int .i64 ((pN zs 0 : Nat) : Int))] 51 (0, 0)))]) (fun ρ j => [(nb ρ 1, (.cells #[(.slice a (zs).length c), (.int .i64 ((pN zs j : Nat) : Int))] 51 (0, 0)))]) (fun ρ _ w hG hK => mterms_any (nb ρ 1) a c zs 0 hz w hK (hG.persK [8] (by kernel_rfl) (by kernel_rfl) (fun _ hF => ⟨hF.2.2.1, trivial⟩)) )) <| cR [[]] <| cN) (fun ρ3 _ => ?_)
  refine sSf Tryd.f3 5 [3, 8, 9, 10] [] (fun ρ => [(.slice (oa ρ3 2) (ot ρ3 2).length (nb ρ3 2)), (.int .i64 wh), (.int .i64 ta), (.slice (oa ρ 3) (ot ρ 3).length (nb ρ 3)), (.slice (oa ρ 3) (ot ρ 3).length (nb ρ 3))]) (fun _ => []) (fun ρ => [(3, fun w => TmF w (oa ρ 3) (nb ρ 3) (ot ρ 3))]) (fun ρ => (fun w => Kb w 1 (rowK .u32 64 kN) ∧ Kb w 0 #[(.int .u32 1779033703), (.int .u32 3144134277), (.int .u32 1013904242), (.int .u32 2773480762), (.int .u32 1359893119), (.int .u32 2600822924), (.int .u32 528734635), (.int .u32 1541459225)] ∧ Is w .i64 a c zs ∧ TmN w (oa ρ3 2) (nb ρ3 2) (ot ρ3 2) ∧ TmF w (oa ρ 3) (nb ρ 3) (ot ρ 3) ∧ True)) (fun _ => True) (fun _ _ hF hf => ⟨⟨hF.1, hF.2.1, hF.2.2.1, hF.2.2.2.1, hf 3, trivial⟩, trivial⟩) (cR [[], [], []] <| cX (o_callT _ 7 (fun _ => #[(.slice (oa ρ3 2) (ot ρ3 2).length (nb ρ3 2)), (.int .i64 wh), (.int .i64 ta)]) (fun _ α κ τs => (.slice α (τs).length κ)) (fun _ τ w hG => spoil_any (oa ρ3 2) (nb ρ3 2) (ot ρ3 2) wh ta hwh hta w hG.facts0.now.2.2.2.1 τ hG.lt (hG.facts0.mono (fun _ hF => hF.2.2.2.1.1)))) <| cR [[]] <| cN) (fun ρ4 _ => ?_)
  refine sS Tryd.f3 43 [8] [] (fun _ => [(.slice (oa ρ3 2) (ot ρ3 2).length (nb ρ3 2)), (.bool (vlB (ot ρ3 2))), (.slice (oa ρ3 2) (ot ρ3 2).length (nb ρ3 2)), (.bool (vlB (ot ρ3 2))), (.bool true), (.bool true), (.slice (oa ρ4 3) (ot ρ4 3).length (nb ρ4 3)), (.bool (vlB (ot ρ4 3))), (.slice (oa ρ4 3) (ot ρ4 3).length (nb ρ4 3)), (.bool (vlB (ot ρ4 3))), (.bool true), (.bool true), (.bool true), (.slice (oa ρ3 2) (ot ρ3 2).length (nb ρ3 2)), (.bool (rgB (ot ρ3 2))), (.slice (oa ρ3 2) (ot ρ3 2).length (nb ρ3 2)), (.bool (rgB (ot ρ3 2))), (.bool true), (.bool true), (.bool true), (.slice (oa ρ4 3) (ot ρ4 3).length (nb ρ4 3)), (.bool (rgB (ot ρ4 3))), (.slice (oa ρ4 3) (ot ρ4 3).length (nb ρ4 3)), (.bool (rgB (ot ρ4 3))), (.bool true), (.bool true), (.bool true), (.int .i64 kk), (.int .i64 (kdN kk)), (.int .i64 kk), (.int .i64 (kdN kk)), (.bool true), (.bool true), (.bool true), (.int .i64 kk), (.int .i64 ((dm kk 8 : Nat) : Int)), (.int .i64 (kdN ((dm kk 8 : Nat) : Int))), (.int .i64 kk), (.int .i64 ((dm kk 8 : Nat) : Int)), (.int .i64 (kdN ((dm kk 8 : Nat) : Int))), (.bool true), (.bool true), (.bool true)]) (fun _ => []) (cR [[]] <| cX (o_callP _ 8 (fun _ => #[(.slice (oa ρ3 2) (ot ρ3 2).length (nb ρ3 2))]) (fun _ => (.bool (vlB (ot ρ3 2)))) (fun _ _ => (by kernel_rfl)) (fun _ => (by kernel_rfl)) (fun _ _ => (by kernel_rfl)) (fun _ _ => trivial) (fun _ _ w hG => dvalid_any (oa ρ3 2) (nb ρ3 2) (ot ρ3 2) w hG.facts0.now.2.2.2.1.1)) <| cR [[]] <| cX (o_callP _ 9 (fun _ => #[(.slice (oa ρ3 2) (ot ρ3 2).length (nb ρ3 2))]) (fun _ => (.bool (vlB (ot ρ3 2)))) (fun _ _ => (by kernel_rfl)) (fun _ => (by kernel_rfl)) (fun _ _ => (by kernel_rfl)) (fun _ _ => trivial) (fun _ _ w hG => rdvalid_any (oa ρ3 2) (nb ρ3 2) (ot ρ3 2) w hG.facts0.now.2.2.2.1.1)) <| cA (v := fun ρ => (.bool ((vlB (ot ρ3 2)) == (vlB (ot ρ3 2))))) (fun _ => (.bool true)) (fun _ => congrArg Value.bool (beq_self_eq_true _)) <| cR [[], []] <| cX (o_callP _ 8 (fun _ => #[(.slice (oa ρ4 3) (ot ρ4 3).length (nb ρ4 3))]) (fun _ => (.bool (vlB (ot ρ4 3)))) (fun _ _ => (by kernel_rfl)) (fun _ => (by kernel_rfl)) (fun _ _ => (by kernel_rfl)) (fun _ _ => trivial) (fun _ _ w hG => dvalid_any (oa ρ4 3) (nb ρ4 3) (ot ρ4 3) w hG.facts0.now.2.2.2.2.1)) <| cR [[]] <| cX (o_callP _ 9 (fun _ => #[(.slice (oa ρ4 3) (ot ρ4 3).length (nb ρ4 3))]) (fun _ => (.bool (vlB (ot ρ4 3)))) (fun _ _ => (by kernel_rfl)) (fun _ => (by kernel_rfl)) (fun _ _ => (by kernel_rfl)) (fun _ _ => trivial) (fun _ _ w hG => rdvalid_any (oa ρ4 3) (nb ρ4 3) (ot ρ4 3) w hG.facts0.now.2.2.2.2.1)) <| cA (v := fun ρ => (.bool ((vlB (ot ρ4 3)) == (vlB (ot ρ4 3))))) (fun _ => (.bool true)) (fun _ => congrArg Value.bool (beq_self_eq_true _)) <| cR [[], [], []] <| cX (o_callP _ 10 (fun _ => #[(.slice (oa ρ3 2) (ot ρ3 2).length (nb ρ3 2))]) (fun _ => (.bool (rgB (ot ρ3 2)))) (fun _ _ => (by kernel_rfl)) (fun _ => (by kernel_rfl)) (fun _ _ => (by kernel_rfl)) (fun _ _ => trivial) (fun _ _ w hG => dranged_any (oa ρ3 2) (nb ρ3 2) (ot ρ3 2) w hG.facts0.now.2.2.2.1.1)) <| cR [[]] <| cX (o_callP _ 11 (fun _ => #[(.slice (oa ρ3 2) (ot ρ3 2).length (nb ρ3 2))]) (fun _ => (.bool (rgB (ot ρ3 2)))) (fun _ _ => (by kernel_rfl)) (fun _ => (by kernel_rfl)) (fun _ _ => (by kernel_rfl)) (fun _ _ => trivial) (fun _ _ w hG => rdranged_any (oa ρ3 2) (nb ρ3 2) (ot ρ3 2) w hG.facts0.now.2.2.2.1.1)) <| cA (v := fun ρ => (.bool ((rgB (ot ρ3 2)) == (rgB (ot ρ3 2))))) (fun _ => (.bool true)) (fun _ => congrArg Value.bool (beq_self_eq_true _)) <| cR [[], [], []] <| cX (o_callP _ 10 (fun _ => #[(.slice (oa ρ4 3) (ot ρ4 3).length (nb ρ4 3))]) (fun _ => (.bool (rgB (ot ρ4 3)))) (fun _ _ => (by kernel_rfl)) (fun _ => (by kernel_rfl)) (fun _ _ => (by kernel_rfl)) (fun _ _ => trivial) (fun _ _ w hG => dranged_any (oa ρ4 3) (nb ρ4 3) (ot ρ4 3) w hG.facts0.now.2.2.2.2.1)) <| cR [[]] <| cX (o_callP _ 11 (fun _ => #[(.slice (oa ρ4 3) (ot ρ4 3).length (nb ρ4 3))]) (fun _ => (.bool (rgB (ot ρ4 3)))) (fun _ _ => (by kernel_rfl)) (fun _ => (by kernel_rfl)) (fun _ _ => (by kernel_rfl)) (fun _ _ => trivial) (fun _ _ w hG => rdranged_any (oa ρ4 3) (nb ρ4 3) (ot ρ4 3) w hG.facts0.now.2.2.2.2.1)) <| cA (v := fun ρ => (.bool ((rgB (ot ρ4 3)) == (rgB (ot ρ4 3))))) (fun _ => (.bool true)) (fun _ => congrArg Value.bool (beq_self_eq_true _)) <| cR [[], [], []] <| cC (fun _ w => dkids_any kk w) <| cR [[]] <| cC (fun _ w => rdkids_any kk w) <| cA (v := fun ρ => (.bool ((kdN kk) == (kdN kk)))) (fun _ => (.bool true)) (fun _ => congrArg Value.bool (beq_self_eq_true _)) <| cR [[], [], []] <| cC (fun _ w => mod_any kk 8 (by decide) hkk w) <| cC (fun _ w => dkids_any ((dm kk 8 : Nat) : Int) w) <| cR [[]] <| cC (fun _ w => mod_any kk 8 (by decide) hkk w) <| cC (fun _ w => rdkids_any ((dm kk 8 : Nat) : Int) w) <| cA (v := fun ρ => (.bool ((kdN ((dm kk 8 : Nat) : Int)) == (kdN ((dm kk 8 : Nat) : Int))))) (fun _ => (.bool true)) (fun _ => congrArg Value.bool (beq_self_eq_true _)) <| cR [[], []] <| cN) (fun _ => ?_)
  refine ok_ret ?_
  exact mR (v := (.bool true)) (fun _ hS => ⟨rfl, hS.bel⟩)
end Go.Proofs.YtlkbhiaoolddmaaDoor

/-! The statement DescriptorValid: for every input the law returns true, and each argument reads behind the call as it read before. No condition. -/
namespace Go.Proofs.YtlkbhiaoolddmaaDoor.descriptorValid
open Go.ChangeShapes Go.WideShapes Go.ChangeAt Go.RowKit

set_option maxRecDepth 100000 in
theorem lifted (os : Os) (started : os.Started) (H : Type) (enc : TypeId × Value → H) :
    ReturnsInHanded {} Tryd.checked os 3 .any (fun w args => (Rows.descriptorValidSpec.pre enc Tryd.prog Tryd.f3 Rows.descriptorValidRow.domain false w args ∧ laidMetH Tryd.prog shaLaid w) ∧ sizedMet enc Tryd.prog Tryd.f3 (OpenSpec.ofChange Rows.descriptorValidSpec) false w args) (Rows.descriptorValidSpec.post enc Tryd.prog Tryd.f3 false true false false) := by
  refine returnsInHanded_of_change_and (C := Tryd.checked) (X := fun w _ => laidMetH Tryd.prog shaLaid w) (fun _ _ _ hh h => h.of_heap hh) own started (by kernel_rfl) Tryd.func3
    (ChangeSpec.witness_shaped (enc := enc) (C := Tryd.checked) (os := os) (X := fun w _ => laidMetH Tryd.prog shaLaid w) false (World.doorLaid Tryd.prog 400 os) #[.slice none 0 0, .int .i64 0, .int .i64 0, .int .i64 0] 8 rfl (World.shaped_of_RefB (by kernel_rfl) (by kernel_rfl)) (by kernel_rfl) (by kernel_rfl) (by kernel_rfl) (door_met os _)) ?_
  intro W base args ds gs before hval0 hW hcnd hsz hL _
  have hval : ∀ (j : Nat) t v, Tryd.f3.params[j]? = some t → args[j]? = some v → Value.okWide Tryd.prog W .any base t v := hval0
  have hW' := hW
  obtain ⟨p, q, hA0, hV, rfl, hfz, hnd⟩ := hW
  have hA : DataW.TrodAll enc Tryd.prog W 0 (fun _ => true) true Tryd.f3.params.toList args.toList ds p := hA0
  rw [Tryd.params3] at hA hval
  obtain ⟨v0, vs0, d0, ds0, p0, q0, hargs, rfl, rfl, h0, r0⟩ := trodAll_cons hA
  obtain ⟨v1, vs1, d1, ds1, p1, q1, rfl, rfl, rfl, h1, r1⟩ := trodAll_cons r0
  obtain ⟨v2, vs2, d2, ds2, p2, q2, rfl, rfl, rfl, h2, r2⟩ := trodAll_cons r1
  obtain ⟨v3, vs3, d3, ds3, p3, q3, rfl, rfl, rfl, h3, r3⟩ := trodAll_cons r2
  obtain ⟨rfl, rfl, rfl⟩ := trodAll_nil r3
  obtain rfl : args = #[v0, v1, v2, v3] := by cases args; simp_all
  obtain ⟨rfl, rfl⟩ := trodVars_none hV
  have k0 := h0
  have lt0 : ∀ x ∈ p0, x.block < W.heap.size := by obtain ⟨m, hm⟩ := k0; exact DataW.trod_lt m _ _ _ hm
  have k1 := h1
  have lt1 : ∀ x ∈ p1, x.block < W.heap.size := by obtain ⟨m, hm⟩ := k1; exact DataW.trod_lt m _ _ _ hm
  have k2 := h2
  have lt2 : ∀ x ∈ p2, x.block < W.heap.size := by obtain ⟨m, hm⟩ := k2; exact DataW.trod_lt m _ _ _ hm
  have k3 := h3
  have lt3 : ∀ x ∈ p3, x.block < W.heap.size := by obtain ⟨m, hm⟩ := k3; exact DataW.trod_lt m _ _ _ hm
  have s0 : ∀ elems spare, d0 = .slice elems spare → elems.length + spare.length ≤ 140737488351232 := by
    intro elems spare hd
    have hb : Tryd.checked.prog.bytesOf 3 = 8 := by kernel_rfl
    have := sized_slice hsz (j := 0) (t := 22) (e := 3) (elems := elems) (spare := spare) (by kernel_rfl) (by rw [hd]; rfl) Tryd.underlying22
    have hr : reachBytes = 140737488351232 := by kernel_rfl
    rw [hb, hr] at this
    omega
  obtain ⟨a0, c0, x0, rfl, w0, y0⟩ := open_ilist Tryd.underlying22 Tryd.underlying3 (by kernel_rfl) (hval 0 22 v0 rfl rfl) h0 s0
  obtain ⟨z1, rfl, rfl, rfl, y1⟩ := open_int Tryd.underlying3 (hval 1 3 v1 rfl rfl) h1
  have w1 := i64_of y1
  obtain ⟨z2, rfl, rfl, rfl, y2⟩ := open_int Tryd.underlying3 (hval 2 3 v2 rfl rfl) h2
  have w2 := i64_of y2
  obtain ⟨z3, rfl, rfl, rfl, y3⟩ := open_int Tryd.underlying3 (hval 3 3 v3 rfl rfl) h3
  have w3 := i64_of y3
  obtain ⟨hK, hI⟩ := laid_two hL
  clear hA0 hval0
  refine (descriptorValid_any a0 c0 x0 z1 z2 z3 (fun z hz => i64_of (y0 z hz)) w1 w2 w3 W hK hI w0).mono fun e W' ⟨he, bel⟩ => ?_
  subst he
  exact ⟨_, rfl, _, _, _, [], _, [], hW', trodAll_mk1 (shut_bool Tryd.underlying4 _), (trodAll_cons_mk (Below.trod laidOut (by kernel_rfl) (of_decide_eq_true (by kernel_rfl)) k0 bel lt0) (trodAll_cons_mk (Below.trod laidOut (by kernel_rfl) (of_decide_eq_true (by kernel_rfl)) k1 bel lt1) (trodAll_cons_mk (Below.trod laidOut (by kernel_rfl) (of_decide_eq_true (by kernel_rfl)) k2 bel lt2) (trodAll_cons_mk (Below.trod laidOut (by kernel_rfl) (of_decide_eq_true (by kernel_rfl)) k3 bel lt3) trodAll_mk0)))), rfl, bel.frame _, fun h => by cases h⟩

theorem over : Rows.descriptorValidRow.holds Tryd.pinned (OpenSpec.ofChange Rows.descriptorValidSpec) :=
  OpenClaim.holds_of_wide 3 Tryd.f3 rfl rfl rfl rfl rfl rfl rfl ⟨rfl, rfl, rfl, rfl, rfl⟩ rfl rfl rfl rfl rfl (by kernel_rfl) Tryd.func3 (by kernel_rfl)
    (of_decide_eq_true (by kernel_rfl)) (by unfold Func.isWrapper; first | (rw [if_pos (by decide +kernel)]; kernel_rfl) | (rw [if_neg (by decide +kernel)]; exact ⟨rfl, rfl⟩))
    (fun os started H enc _ => lifted os started H enc)

theorem proved : Rows.DescriptorValidCardSaid :=
  Claim7.holds_tied_plain_at .later [] [.data, .data] true (true, "310c3290a8399961a00b3eb432e55f26eef7ff74227cc8bc8dd99c576f2572d7") false
    over (fun _ h => by cases h) (by kernel_rfl) (fun _ h => by cases h) descriptorValid_row_tie rfl ⟨rfl, rfl⟩ (by kernel_rfl) rfl
    (fun f fn hf hfn => by
      obtain rfl : f = 3 := Option.some.inj ((show Tryd.prog.funcNamed "lightclient/lightclientlaw26.DescriptorValid" = some 3 by kernel_rfl).symm.trans hf) |>.symm
      obtain rfl : fn = Tryd.f3 := (Option.some.inj (Tryd.func3.symm.trans hfn)).symm
      exact ⟨by kernel_rfl, fun j t ht => by
        rw [Tryd.params3] at ht
        rcases j with _ | _ | _ | _ | j
        · have ht2 : t = 22 := by simpa using ht.symm
          subst ht2
          exact (show Tryd.prog.wantsStandIn 22 = false by kernel_rfl)
        · have ht2 : t = 3 := by simpa using ht.symm
          subst ht2
          exact (show Tryd.prog.wantsStandIn 3 = false by kernel_rfl)
        · have ht2 : t = 3 := by simpa using ht.symm
          subst ht2
          exact (show Tryd.prog.wantsStandIn 3 = false by kernel_rfl)
        · have ht2 : t = 3 := by simpa using ht.symm
          subst ht2
          exact (show Tryd.prog.wantsStandIn 3 = false by kernel_rfl)
        · simp at ht⟩)
    (by kernel_rfl)
#print axioms proved
end Go.Proofs.YtlkbhiaoolddmaaDoor.descriptorValid
