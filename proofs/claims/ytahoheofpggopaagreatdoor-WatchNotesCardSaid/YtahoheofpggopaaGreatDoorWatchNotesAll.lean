/-
  The statement WatchNotes: for every input the law returns true, and each argument reads behind the call as it read before. No condition.
-/
import Derived.Test.YtahoheofpggopaaGreatDoorBase6
import Derived.Test.YtahoheofpggopaaGreatDoorRows
import Derived.Test.YtahoheofpggopaaGreatDoorCards
import Derived.Test.YtahoheofpggopaaGreatDoorTie
import Derived.SevenTiedAt
import Derived.LaidMore
import Derived.LaidHandle
import Derived.Stop.Joined
import Derived.WalkKit
import Derived.ProofKit
import Derived.OpenShut
import Derived.SizedLaws
set_option maxRecDepth 100000
namespace Go.Proofs.YtahoheofpggopaaGreatDoor
open Go Go.RowKit
namespace watchNotes
open Go.ChangeShapes Go.WideShapes Go.ChangeAt Go.RowKit
set_option maxRecDepth 100000 in
theorem lifted (os : Os) (started : os.Started) (H : Type) (enc : TypeId × Value → H) :
    ReturnsInHanded {} Tryz.checked os 4 .any (fun w args => (Rows.watchNotesSpec.pre enc Tryz.prog Tryz.f4 Rows.watchNotesRow.domain false w args ∧ laidMetH Tryz.prog zK w) ∧ sizedMet enc Tryz.prog Tryz.f4 (OpenSpec.ofChange Rows.watchNotesSpec) false w args) (Rows.watchNotesSpec.post enc Tryz.prog Tryz.f4 false true false false) := by
  refine returnsInHanded_of_change_and (C := Tryz.checked) (X := fun w _ => laidMetH Tryz.prog zK w) (fun _ _ _ hh h => h.of_heap hh) own started (by kernel_rfl) Tryz.func4
    (ChangeSpec.witness_shaped (enc := enc) (C := Tryz.checked) (os := os) (X := fun w _ => laidMetH Tryz.prog zK w) false (World.doorLaid Tryz.prog 400 os) #[.int .i64 0, .int .i64 0, .slice none 0 0, .slice none 0 0] 8 rfl (World.shaped_of_RefB (by kernel_rfl) (by kernel_rfl)) (by kernel_rfl) (by kernel_rfl) (by kernel_rfl) (door_met os _)) ?_
  intro W base args ds gs before hval0 hW hcnd hsz hL _
  have hval : ∀ (j : Nat) t v, Tryz.f4.params[j]? = some t → args[j]? = some v → Value.okWide Tryz.prog W .any base t v := hval0
  have hW' := hW
  obtain ⟨p, q, hA0, hV, rfl, hfz, hnd⟩ := hW
  have hA : DataW.TrodAll enc Tryz.prog W 0 (fun _ => true) true Tryz.f4.params.toList args.toList ds p := hA0
  rw [Tryz.params4] at hA hval
  obtain ⟨v0, vs0, d0, ds0, p0, q0, hargs, rfl, rfl, h0, r0⟩ := trodAll_cons hA
  obtain ⟨v1, vs1, d1, ds1, p1, q1, rfl, rfl, rfl, h1, r1⟩ := trodAll_cons r0
  obtain ⟨v2, vs2, d2, ds2, p2, q2, rfl, rfl, rfl, h2, r2⟩ := trodAll_cons r1
  obtain ⟨v3, vs3, d3, ds3, p3, q3, rfl, rfl, rfl, h3, r3⟩ := trodAll_cons r2
  obtain ⟨rfl, rfl, rfl⟩ := trodAll_nil r3
  obtain rfl : args = #[v0, v1, v2, v3] := by cases args; simp_all
  obtain ⟨rfl, rfl⟩ := trodVars_none hV
  have k0 := h0
  have lt0 : ∀ x ∈ p0, x.block < W.heap.size := by obtain ⟨m, hm⟩ := k0; exact DataW.trod_lt m _ _ _ hm
  have k1 := h1
  have lt1 : ∀ x ∈ p1, x.block < W.heap.size := by obtain ⟨m, hm⟩ := k1; exact DataW.trod_lt m _ _ _ hm
  have k2 := h2
  have lt2 : ∀ x ∈ p2, x.block < W.heap.size := by obtain ⟨m, hm⟩ := k2; exact DataW.trod_lt m _ _ _ hm
  have k3 := h3
  have lt3 : ∀ x ∈ p3, x.block < W.heap.size := by obtain ⟨m, hm⟩ := k3; exact DataW.trod_lt m _ _ _ hm
  obtain ⟨z0, rfl, rfl, rfl, y0⟩ := open_int Tryz.underlying3 (hval 0 3 v0 rfl rfl) h0
  have w0 := i64_of y0
  obtain ⟨z1, rfl, rfl, rfl, y1⟩ := open_int Tryz.underlying3 (hval 1 3 v1 rfl rfl) h1
  have w1 := i64_of y1
  have s2 : ∀ elems spare, d2 = .slice elems spare → elems.length + spare.length ≤ 140737488351232 := by
    intro elems spare hd
    have hb : Tryz.checked.prog.bytesOf 3 = 8 := by kernel_rfl
    have := sized_slice hsz (j := 2) (t := 22) (e := 3) (elems := elems) (spare := spare) (by kernel_rfl) (by rw [hd]; rfl) Tryz.underlying22
    have hr : reachBytes = 140737488351232 := by kernel_rfl
    rw [hb, hr] at this
    omega
  obtain ⟨a2, c2, x2, rfl, w2, y2⟩ := open_ilist Tryz.underlying22 Tryz.underlying3 (by kernel_rfl) (hval 2 22 v2 rfl rfl) h2 s2
  have s3 : ∀ elems spare, d3 = .slice elems spare → elems.length + spare.length ≤ 140737488351232 := by
    intro elems spare hd
    have hb : Tryz.checked.prog.bytesOf 5 = 1 := by kernel_rfl
    have := sized_slice hsz (j := 3) (t := 37) (e := 5) (elems := elems) (spare := spare) (by kernel_rfl) (by rw [hd]; rfl) Tryz.underlying37
    rw [hb, Nat.mul_one] at this
    exact this
  obtain ⟨a3, c3, x3, rfl, w3⟩ := open_bytes (hval 3 37 v3 rfl rfl) h3 s3
  obtain ⟨hK, hI⟩ := laid_two hL
  clear hA0 hval0
  refine (watchNotes_any z0 z1 a2 c2 x2 a3 c3 x3 w0 w1 (fun z hz => i64_of (y2 z hz)) W hK hI w2 w3).mono fun e W' ⟨he, bel⟩ => ?_
  subst he
  exact ⟨_, rfl, _, _, _, [], _, [], hW', trodAll_mk1 (shut_bool Tryz.underlying4 _), (trodAll_cons_mk (Below.trod laidOut (by kernel_rfl) (of_decide_eq_true (by kernel_rfl)) k0 bel lt0) (trodAll_cons_mk (Below.trod laidOut (by kernel_rfl) (of_decide_eq_true (by kernel_rfl)) k1 bel lt1) (trodAll_cons_mk (Below.trod laidOut (by kernel_rfl) (of_decide_eq_true (by kernel_rfl)) k2 bel lt2) (trodAll_cons_mk (Below.trod laidOut (by kernel_rfl) (of_decide_eq_true (by kernel_rfl)) k3 bel lt3) trodAll_mk0)))), rfl, bel.frame _, fun h => by cases h⟩
theorem over : Rows.watchNotesRow.holds Tryz.pinned (OpenSpec.ofChange Rows.watchNotesSpec) :=
  OpenClaim.holds_of_wide 4 Tryz.f4 rfl rfl rfl rfl rfl rfl rfl ⟨rfl, rfl, rfl, rfl, rfl⟩ rfl rfl rfl rfl rfl (by kernel_rfl) Tryz.func4 (by kernel_rfl)
    (of_decide_eq_true (by kernel_rfl)) (by unfold Func.isWrapper; first | (rw [if_pos (by decide +kernel)]; kernel_rfl) | (rw [if_neg (by decide +kernel)]; exact ⟨rfl, rfl⟩))
    (fun os started H enc _ => lifted os started H enc)
theorem proved : Rows.WatchNotesCardSaid :=
  Claim7.holds_tied_plain_at .later [] [.data, .data] true (true, "b5e922500e40725749470a6866969fcfed273ae20294b956cf111c62f104a1ed") false
    over (fun _ h => by cases h) (by kernel_rfl) (fun _ h => by cases h) watchNotes_row_tie rfl ⟨rfl, rfl⟩ (by kernel_rfl) rfl
    (fun f fn hf hfn => by
      obtain rfl : f = 4 := Option.some.inj ((show Tryz.prog.funcNamed "lightclient/lightclientlaw28.WatchNotes" = some 4 by kernel_rfl).symm.trans hf) |>.symm
      obtain rfl : fn = Tryz.f4 := (Option.some.inj (Tryz.func4.symm.trans hfn)).symm
      exact ⟨by kernel_rfl, fun j t ht => by
        rw [Tryz.params4] at ht
        rcases j with _ | _ | _ | _ | j
        · have ht2 : t = 3 := by simpa using ht.symm
          subst ht2
          exact (show Tryz.prog.wantsStandIn 3 = false by kernel_rfl)
        · have ht2 : t = 3 := by simpa using ht.symm
          subst ht2
          exact (show Tryz.prog.wantsStandIn 3 = false by kernel_rfl)
        · have ht2 : t = 22 := by simpa using ht.symm
          subst ht2
          exact (show Tryz.prog.wantsStandIn 22 = false by kernel_rfl)
        · have ht2 : t = 37 := by simpa using ht.symm
          subst ht2
          exact (show Tryz.prog.wantsStandIn 37 = false by kernel_rfl)
        · simp at ht⟩)
    (by kernel_rfl)
#print axioms proved
end watchNotes
end Go.Proofs.YtahoheofpggopaaGreatDoor
