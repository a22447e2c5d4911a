/-
  A region that draws its order, by an invariant: what holds of the operations that have been carried out, whichever they are.
-/
import Derived.WalkKit
namespace Go.Proofs.Ytlgjdejlnelndaa
open Go

theorem ready_mem {md : Region.Mode} {ops : Array Oper} {L : Array Bool} {i : Nat} (h : i ∈ Region.ready md ops L) :
    ∃ o, ops[i]? = some o ∧ L.getD i true = false ∧ ∀ e ∈ o.after, Region.binds md e = true → L.getD e.on false = true := by
  unfold Region.ready at h
  rw [List.mem_filter] at h
  obtain ⟨h1, h2⟩ := h
  rw [Bool.and_eq_true] at h2
  obtain ⟨h2, h3⟩ := h2
  cases ho : ops[i]? with
  | none => rw [ho] at h3; simp at h3
  | some o =>
    rw [ho] at h3
    simp only [Option.map_some, Option.getD_some, Array.all_eq_true_iff_forall_mem] at h3
    refine ⟨o, rfl, by simpa using h2, fun e he hb => ?_⟩
    have := h3 e he
    rw [hb] at this
    simpa using this

/-- Every binding edge leads to an operation before. -/
def Downward (md : Region.Mode) (ops : Array Oper) : Bool := (List.range ops.size).all fun i => ((ops[i]?).map fun o => o.after.all fun e => !Region.binds md e || decide (e.on < i)).getD true

theorem all_listed {md : Region.Mode} {ops : Array Oper} {L : Array Bool} (hd : Downward md ops = true) (h : Region.ready md ops L = []) : ∀ i, i < ops.size → L.getD i true = true := by
  intro i
  induction i using Nat.strongRecOn with
  | ind i ih =>
    intro hi
    cases hl : L.getD i true with
    | true => rfl
    | false =>
      exfalso
      have hmem : i ∈ Region.ready md ops L := by
        unfold Region.ready
        rw [List.mem_filter]
        refine ⟨List.mem_range.2 hi, ?_⟩
        rw [hl]
        simp only [Bool.not_false, Bool.true_and]
        have hdi : ((ops[i]?).map fun o => o.after.all fun e => !Region.binds md e || decide (e.on < i)).getD true = true := by
          unfold Downward at hd
          rw [List.all_eq_true] at hd
          exact hd i (List.mem_range.2 hi)
        cases ho : ops[i]? with
        | none => rw [Array.getElem?_eq_none_iff] at ho; omega
        | some o =>
          rw [ho] at hdi
          simp only [Option.map_some, Option.getD_some, Array.all_eq_true_iff_forall_mem] at hdi ⊢
          intro e he
          have h1 := hdi e he
          cases hb : Region.binds md e with
          | false => rfl
          | true =>
            rw [hb] at h1
            simp at h1
            have h2 := ih e.on h1 (by omega)
            simp only [Bool.not_true, Bool.false_or]
            have h3 : L.getD e.on true = true := h2
            rw [Array.getD_eq_getD_getElem?] at h3 ⊢
            cases hq : L[e.on]? with
            | none =>
              exfalso
              rw [Array.getElem?_eq_none_iff] at hq
              have : L.getD i true = true := by rw [Array.getD_eq_getD_getElem?, Array.getElem?_eq_none (by omega)]; rfl
              rw [this] at hl; exact absurd hl (by simp)
            | some b => rw [hq] at h3; simpa using h3
      rw [h] at hmem
      exact absurd hmem (by simp)

/-- How many operations are still to come. -/
def togo (L : Array Bool) : Nat := L.toList.countP (fun b => !b)
theorem togo_set {L : Array Bool} {i : Nat} (h : L.getD i true = false) : togo (L.setIfInBounds i true) + 1 = togo L := by
  unfold togo
  have hi : i < L.size := by
    by_cases hh : i < L.size
    · exact hh
    · rw [Array.getD_eq_getD_getElem?, Array.getElem?_eq_none (by omega)] at h; exact absurd h (by simp)
  have hv : L.toList[i]? = some false := by
    rw [Array.getD_eq_getD_getElem?, Array.getElem?_eq_getElem hi] at h
    rw [Array.getElem?_toList, Array.getElem?_eq_getElem hi]
    simpa using h
  rw [Array.toList_setIfInBounds]
  revert hv
  generalize L.toList = l
  intro hv
  clear hi h
  induction l generalizing i with
  | nil => simp at hv
  | cons b l ih =>
    cases i with
    | zero => simp at hv; subst hv; simp
    | succ i => simp at hv; simp only [List.set_cons_succ, List.countP_cons]; have := ih hv; omega

variable {P : Program} {ops : Array Oper} {Q : Exit → Act → World → Prop}

theorem wpAny_inv (I : Array Bool → Act → World → Prop) (hd : Downward .any ops = true)
    (hs : ∀ L a w i o, I L a w → ops[i]? = some o → L.getD i true = false → (∀ e ∈ o.after, Region.binds .any e = true → L.getD e.on false = true) → wpOp P ops Q i (I (L.setIfInBounds i true)) a w)
    (he : ∀ L a w, I L a w → (∀ i, i < ops.size → L.getD i true = true) → Q .normal a w) :
    ∀ fuel L a w, togo L ≤ fuel → I L a w → wpAny P .any ops Q fuel L a w := by
  intro fuel
  induction fuel with
  | zero =>
    intro L a w ht hI
    have hn : Region.ready .any ops L = [] := by
      cases hr : Region.ready .any ops L with
      | nil => rfl
      | cons i l =>
        obtain ⟨o, _, h2, _⟩ := ready_mem (md := .any) (ops := ops) (L := L) (i := i) (by rw [hr]; simp)
        have := togo_set h2
        omega
    exact ⟨hn, he L a w hI (all_listed hd hn)⟩
  | succ fuel ih =>
    intro L a w ht hI
    refine ⟨fun hn => he L a w hI (all_listed hd hn), fun i hi => ?_⟩
    obtain ⟨o, h1, h2, h3⟩ := ready_mem hi
    have hc := togo_set h2
    exact wpOp_mono (fun a w h => ih _ a w (by omega) h) (hs L a w i o hI h1 h2 h3)

theorem wp_region_inv {id : Nat} {a : Act} {w : World} (hm : P.follows .mixedOrders = true) (I : Array Bool → Act → World → Prop) (hd : Downward .any ops = true)
    (h0 : I (Array.replicate ops.size false) a w.drew)
    (hs : ∀ L a w i o, I L a w → ops[i]? = some o → L.getD i true = false → (∀ e ∈ o.after, Region.binds .any e = true → L.getD e.on false = true) → wpOp P ops Q i (I (L.setIfInBounds i true)) a w)
    (he : ∀ L a w, I L a w → (∀ i, i < ops.size → L.getD i true = true) → Q .normal a w) : (Code.region id ops true).wp P Q a w := by
  refine wp_region_any hm (wpAny_inv I hd hs he ops.size _ a _ ?_ h0)
  unfold togo
  rw [Array.toList_replicate]
  exact Nat.le_trans (List.countP_le_length) (by simp)

/-- What must have been carried out before operation i. -/
def depsOf (ops : Array Oper) (i : Nat) : List Nat := ((ops[i]?).map fun o => ((o.after.toList.filter (Region.binds .any)).map (·.on))).getD []
/-- The same, the invariant over the frame at the region's head; what must come before, as a list. -/
theorem wp_region_inv' {id : Nat} {a : Act} {w : World} (hm : P.follows .mixedOrders = true) (I : Act → Array Bool → Act → World → Prop) (hd : Downward .any ops = true)
    (h0 : I a (Array.replicate ops.size false) a w.drew)
    (hs : ∀ i, i < ops.size → ∀ L a' w, I a L a' w → L.getD i true = false → (∀ d ∈ depsOf ops i, L.getD d false = true) → wpOp P ops Q i (I a (L.setIfInBounds i true)) a' w)
    (he : ∀ L a' w, I a L a' w → (∀ i, i < ops.size → L.getD i true = true) → Q .normal a' w) : (Code.region id ops true).wp P Q a w := by
  refine wp_region_inv hm (I a) hd h0 (fun L a' w i o hI ho hl hdep => hs i ?_ L a' w hI hl ?_) he
  · by_cases hh : i < ops.size
    · exact hh
    · rw [Array.getElem?_eq_none (by omega)] at ho; exact absurd ho (by simp)
  · intro d hmem
    unfold depsOf at hmem
    rw [ho] at hmem
    simp only [Option.map_some, Option.getD_some, List.mem_map, List.mem_filter, Array.mem_toList_iff] at hmem
    obtain ⟨e, ⟨h1, h2⟩, rfl⟩ := hmem
    exact hdep e h1 h2

/-- One operation without a guard. -/
theorem wpOp_step {i : Nat} {o : Oper} {J : Act → World → Prop} {a : Act} {w : World} (ho : ops[i]? = some o) (hg : o.guard = none)
    (h : ∀ K : Act → World → Prop, (∀ a w, J a w → K a w) → o.wp P a w K Q) : wpOp P ops Q i J a w := by
  unfold wpOp
  rw [ho]
  simp only []
  rw [if_pos (by unfold Region.wanted; rw [hg])]
  exact Or.inl (h J (fun _ _ x => x))
end Go.Proofs.Ytlgjdejlnelndaa
