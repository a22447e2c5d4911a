/-
  The statement TopParts: for every input the law returns true, and each argument reads behind the call as it read before. No condition.
-/
import Derived.Test.YtcgdimlbbdfdpaaGreatDoorBase10
import Derived.Test.YtcgdimlbbdfdpaaGreatDoorBase38
import Derived.Test.YtcgdimlbbdfdpaaGreatDoorBase39
import Derived.Test.YtcgdimlbbdfdpaaGreatDoorBase40
import Derived.Test.YtcgdimlbbdfdpaaGreatDoorRows
import Derived.Test.YtcgdimlbbdfdpaaGreatDoorCards
import Derived.Test.YtcgdimlbbdfdpaaGreatDoorTie
import Derived.SevenTiedAt
import Derived.LaidMore
import Derived.LaidHandle
import Derived.Stop.Joined
import Derived.WalkKit
import Derived.ProofKit
import Derived.OpenShut
import Derived.SizedLaws
set_option maxRecDepth 100000
set_option linter.all false
namespace Go.Proofs.YtcgdimlbbdfdpaaGreatDoor
open Go Go.RowKit _root_.Go.Proofs.Tryz
section
namespace topParts
open Go.ChangeShapes Go.WideShapes Go.ChangeAt Go.RowKit
/-- A variable's block has no more cells than its type. -/
theorem shape_lt {P : Program} {W : World} (h : W.ShapedOpen P) {g n : Nat} (hg : Nat.blt g P.globals.size = true) (hz : ((((begin P (fun _ _ => 0) default).world.heap[g]?).bind Obj.row?).map fun x => x.1.size) = some n) : ∀ i v, W.cell? ⟨g, i, none⟩ = some v → i < n := by
  intro i v hv
  obtain ⟨⟨zero, t⟩, h1, rfl⟩ := Option.map_eq_some_iff.1 hz
  obtain ⟨cs, h2, h3, _⟩ := h.1 g zero t (Nat.blt_eq ▸ hg) h1
  unfold World.cell? at hv
  rw [h2] at hv
  simp only [Option.isSome_none, Bool.false_eq_true, if_false] at hv
  have := (Array.getElem?_eq_some_iff.1 hv).1
  show i < zero.size
  omega
theorem handed_shaped {a : Assume} {C : Checked} {os : Os} {f : FuncId} {fn : Func} {s : ChangeSpec} {conds : List PathCond} {apart fresh handsOn again : Bool} {H : Type} {enc : TypeId × Value → H} {X : World → Array Value → Prop}
    (hX : ∀ (w w' : World) (args : Array Value), w.heap = w'.heap → X w args → X w' args)
    (own : ownKnob C.prog.godebug = none) (started : os.Started) (noInit : C.prog.inits.idxOf? f = none) (hfn : C.prog.funcs[f]? = some fn)
    (witness : ∃ (w : World) (tape : Tape) (i : Input), w.os = os ∧ (w.forCall tape i).Shaped C.prog ∧ i.vars = [] ∧ Input.okWide C.prog (w.forCall tape i) .any w.heap.size f i ∧
      ((s.pre enc C.prog fn conds apart (w.forCall tape i).memory i.args ∧ X (w.forCall tape i).memory i.args) ∧ sizedMet enc C.prog fn (OpenSpec.ofChange s) apart (w.forCall tape i).memory i.args) ∧ a.holds C.prog (lone (Frame.enter C.prog f i.args .normal) [] (w.forCall tape i)))
    (contract : ∀ (W : World) (base : Nat) (args : Array Value) (ds gs : List (DataW H)) (before : List MemPlace), W.ShapedOpen C.prog →
      (∀ (j : Nat) t v, fn.params[j]? = some t → args[j]? = some v → Value.okWide C.prog W .any base t v) →
      DataW.Whole enc C.prog fn.params.toList s.vars apart W args.toList ds gs before →
      conds.all (PathCond.test C.prog ⟨fn.params.toList, ds, s.plain.varTypes C.prog, gs⟩) = true →
      (DataW.weightsEach C.prog (fn.params.toList ++ s.plain.varTypes C.prog) (ds ++ gs)).all (· ≤ reachBytes) = true → X W args →
      a.holds C.prog (lone (Frame.enter C.prog f args .normal) [] W) →
      Calls C.prog f args W fun e W' => ∃ v, e = .returned v ∧ s.post enc C.prog fn apart fresh handsOn again W args v W') :
    ReturnsInHanded a C os f .any (fun w args => (s.pre enc C.prog fn conds apart w args ∧ X w args) ∧ sizedMet enc C.prog fn (OpenSpec.ofChange s) apart w args) (s.post enc C.prog fn apart fresh handsOn again) := by
  refine returnsInHanded_of_calls own started noInit witness ?_
  intro w tape i _ hsh _ hok hpre hholds
  obtain ⟨_, _, _, fn', hfn', _, _, _, _, hval⟩ := hok
  obtain rfl : fn' = fn := Option.some.inj (hfn'.symm.trans hfn)
  obtain ⟨⟨⟨ds, gs, before, hw, hc⟩, hx⟩, hz⟩ := hpre
  have hw' := DataW.Whole.of_heap (w' := w.forCall tape i) (by rfl) hw
  refine (contract (w.forCall tape i) w.heap.size i.args ds gs before hsh hval hw' hc (hz.weights hw) (hX _ _ _ (by rfl) hx) hholds).mono fun e W' ⟨v, he, hp⟩ => ?_
  subst he
  exact ChangeSpec.post_blind hp
set_option maxRecDepth 100000 in
theorem lifted (os : Os) (started : os.Started) (H : Type) (enc : TypeId × Value → H) :
    ReturnsInHanded {} Tryz.checked os 3 .any (fun w args => (Rows.topPartsSpec.pre enc prog f3 Rows.topPartsRow.domain false w args ∧ laidMetH prog xO w) ∧ sizedMet enc prog f3 (OpenSpec.ofChange Rows.topPartsSpec) false w args) (Rows.topPartsSpec.post enc prog f3 false true false false) := by
  refine handed_shaped (C := Tryz.checked) (X := fun w _ => laidMetH prog xO w) (fun _ _ _ hh h => h.of_heap hh) own started (by kernel_rfl) func3
    (ChangeSpec.witness_shaped (enc := enc) (C := Tryz.checked) (os := os) (X := fun w _ => laidMetH prog xO w) false (World.doorLaid prog 400 os) #[.int .u8 0, .slice none 0 0, .int .u8 0, .int .u8 0] 8 rfl (World.shaped_of_RefB (by kernel_rfl) (by kernel_rfl)) (by kernel_rfl) (by kernel_rfl) (by kernel_rfl) (door_met os _)) ?_
  intro W base args ds gs before hsh hval0 hW hcnd hsz hL _
  have hval : ∀ (j : Nat) t v, f3.params[j]? = some t → args[j]? = some v → Value.okWide prog W .any base t v := hval0
  have hW' := hW
  obtain ⟨p, q, hA0, hV, rfl, hfz, hnd⟩ := hW
  have hA : DataW.TrodAll enc prog W 0 (fun _ => true) true f3.params.toList args.toList ds p := hA0
  rw [Tryz.params3] at hA hval
  obtain ⟨v0, vs0, d0, ds0, p0, q0, hargs, rfl, rfl, h0, r0⟩ := trodAll_cons hA
  obtain ⟨v1, vs1, d1, ds1, p1, q1, rfl, rfl, rfl, h1, r1⟩ := trodAll_cons r0
  obtain ⟨v2, vs2, d2, ds2, p2, q2, rfl, rfl, rfl, h2, r2⟩ := trodAll_cons r1
  obtain ⟨v3, vs3, d3, ds3, p3, q3, rfl, rfl, rfl, h3, r3⟩ := trodAll_cons r2
  obtain ⟨rfl, rfl, rfl⟩ := trodAll_nil r3
  obtain rfl : args = #[v0, v1, v2, v3] := by cases args; simp_all
  obtain ⟨rfl, rfl⟩ := trodVars_none hV
  have k0 := h0
  have lt0 : ∀ x ∈ p0, x.block < W.heap.size := by obtain ⟨m, hm⟩ := k0; exact DataW.trod_lt m _ _ _ hm
  have k1 := h1
  have lt1 : ∀ x ∈ p1, x.block < W.heap.size := by obtain ⟨m, hm⟩ := k1; exact DataW.trod_lt m _ _ _ hm
  have k2 := h2
  have lt2 : ∀ x ∈ p2, x.block < W.heap.size := by obtain ⟨m, hm⟩ := k2; exact DataW.trod_lt m _ _ _ hm
  have k3 := h3
  have lt3 : ∀ x ∈ p3, x.block < W.heap.size := by obtain ⟨m, hm⟩ := k3; exact DataW.trod_lt m _ _ _ hm
  obtain ⟨z0, rfl, rfl, rfl, y0⟩ := open_int underlying5 (hval 0 5 v0 rfl rfl) h0
  obtain ⟨a0, rfl, w0⟩ := tX rfl y0
  have s1 : ∀ elems spare, d1 = .slice elems spare → elems.length + spare.length ≤ 140737488351232 := by
    intro elems spare hd
    have hb : Tryz.checked.prog.bytesOf 5 = 1 := by kernel_rfl
    have := sized_slice hsz (j := 1) (t := 22) (e := 5) (elems := elems) (spare := spare) (by kernel_rfl) (by rw [hd]; rfl) underlying22
    rw [hb, Nat.mul_one] at this
    exact this
  obtain ⟨a1, c1, x1, rfl, w1⟩ := open_bytes (hval 1 22 v1 rfl rfl) h1 s1
  obtain ⟨z2, rfl, rfl, rfl, y2⟩ := open_int underlying5 (hval 2 5 v2 rfl rfl) h2
  obtain ⟨a2, rfl, w2⟩ := tX rfl y2
  obtain ⟨z3, rfl, rfl, rfl, y3⟩ := open_int underlying5 (hval 3 5 v3 rfl rfl) h3
  obtain ⟨a3, rfl, w3⟩ := tX rfl y3
  obtain ⟨hK, hI⟩ := laid_two hL
  have hs0 := shape_lt hsh (g := 0) (n := 8) (by kernel_rfl) (by kernel_rfl)
  have hs1 := shape_lt hsh (g := 1) (n := 64) (by kernel_rfl) (by kernel_rfl)
  clear hA0 hval0
  refine (topParts_any a0 a1 c1 x1 a2 a3 W hK hI hs0 hs1 w0 w1 w2 w3).mono fun e W' ⟨he, bel⟩ => ?_
  subst he
  exact ⟨_, rfl, _, _, _, [], _, [], hW', trodAll_mk1 (shut_bool underlying4 _), (trodAll_cons_mk (Below.trod laidOut (by kernel_rfl) (of_decide_eq_true (by kernel_rfl)) k0 bel lt0) (trodAll_cons_mk (Below.trod laidOut (by kernel_rfl) (of_decide_eq_true (by kernel_rfl)) k1 bel lt1) (trodAll_cons_mk (Below.trod laidOut (by kernel_rfl) (of_decide_eq_true (by kernel_rfl)) k2 bel lt2) (trodAll_cons_mk (Below.trod laidOut (by kernel_rfl) (of_decide_eq_true (by kernel_rfl)) k3 bel lt3) trodAll_mk0)))), rfl, bel.frame _, fun h => by cases h⟩
theorem over : Rows.topPartsRow.holds Tryz.pinned (OpenSpec.ofChange Rows.topPartsSpec) :=
  OpenClaim.holds_of_wide 3 f3 rfl rfl rfl rfl rfl rfl rfl ⟨rfl, rfl, rfl, rfl, rfl⟩ rfl rfl rfl rfl rfl (by kernel_rfl) func3 jFacts
    (of_decide_eq_true (by kernel_rfl)) (by unfold Func.isWrapper; first | (rw [if_pos (by decide +kernel)]; kernel_rfl) | (rw [if_neg (by decide +kernel)]; exact ⟨rfl, rfl⟩))
    (fun os started H enc _ => lifted os started H enc)
theorem proved : Rows.TopPartsCardSaid :=
  Claim7.holds_tied_plain_at .later [] [.data, .data] true (true, "5f486c5975004cacf9b8a7f249b6fd8b42d64b81188c5da4b0d4f92ae99a60c0") false
    over (fun _ h => by cases h) (by kernel_rfl) (fun _ h => by cases h) topParts_row_tie rfl ⟨rfl, rfl⟩ (by kernel_rfl) rfl
    (fun f fn hf hfn => by
      obtain rfl : f = 3 := Option.some.inj ((show prog.funcNamed "lightclient/lightclienttop.TopParts" = some 3 by kernel_rfl).symm.trans hf) |>.symm
      obtain rfl : fn = f3 := (Option.some.inj (func3.symm.trans hfn)).symm
      exact ⟨jLooks, fun j t ht => by
        rw [Tryz.params3] at ht
        rcases j with _ | _ | _ | _ | j
        · have ht2 : t = 5 := by simpa using ht.symm
          subst ht2
          exact (show prog.wantsStandIn 5 = false by kernel_rfl)
        · have ht2 : t = 22 := by simpa using ht.symm
          subst ht2
          exact (show prog.wantsStandIn 22 = false by kernel_rfl)
        · have ht2 : t = 5 := by simpa using ht.symm
          subst ht2
          exact (show prog.wantsStandIn 5 = false by kernel_rfl)
        · have ht2 : t = 5 := by simpa using ht.symm
          subst ht2
          exact (show prog.wantsStandIn 5 = false by kernel_rfl)
        · simp at ht⟩)
    jGoes
#print axioms proved
end topParts
end
end Go.Proofs.YtcgdimlbbdfdpaaGreatDoor
