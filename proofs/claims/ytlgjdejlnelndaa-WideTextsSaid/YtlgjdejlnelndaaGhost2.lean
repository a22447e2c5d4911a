/-
  A region of operations, whatever the order: the law.
-/
import Derived.Test.YtlgjdejlnelndaaGhost
namespace Go.Proofs.Ytlgjdejlnelndaa
open Go Go.RowKit

theorem lookup_none_of {l : List (Nat × Obj)} {n : Nat} (h : l.lookup n = none) : ∀ o, (n, o) ∉ l := by
  intro o hm
  induction l with
  | nil => simp at hm
  | cons x l ih =>
    obtain ⟨k, v⟩ := x
    rw [List.lookup_cons] at h
    by_cases hk : (n == k) = true
    · rw [hk] at h; simp at h
    · have hk' : (n == k) = false := by simpa using hk
      rw [hk'] at h
      rcases List.mem_cons.1 hm with h1 | h1
      · simp only [Prod.mk.injEq] at h1; rw [h1.1] at hk'; simp at hk'
      · exact ih h h1
theorem mem_of_lookup {l : List (Nat × Obj)} {n : Nat} {o : Obj} (h : l.lookup n = some o) : (n, o) ∈ l := by
  induction l with
  | nil => simp at h
  | cons x l ih =>
    obtain ⟨k, v⟩ := x
    rw [List.lookup_cons] at h
    by_cases hk : (n == k) = true
    · rw [hk] at h
      have e : n = k := by simpa using hk
      simp only [Option.some.injEq] at h
      rw [e, h]; exact List.mem_cons_self
    · have hk' : (n == k) = false := by simpa using hk
      rw [hk'] at h
      exact List.mem_cons_of_mem _ (ih h)

theorem mem_of_lookupV {l : List (Nat × Value)} {n : Nat} {o : Value} (h : l.lookup n = some o) : (n, o) ∈ l := by
  induction l with
  | nil => simp at h
  | cons x l ih =>
    obtain ⟨k, v⟩ := x
    rw [List.lookup_cons] at h
    by_cases hk : (n == k) = true
    · rw [hk] at h
      have e : n = k := by simpa using hk
      simp only [Option.some.injEq] at h
      rw [e, h]; exact List.mem_cons_self
    · have hk' : (n == k) = false := by simpa using hk
      rw [hk'] at h
      exact List.mem_cons_of_mem _ (ih h)
theorem fold_congr {α : Type} {l : List Nat} {f g : α → Nat → α} (h : ∀ c j, j ∈ l → f c j = g c j) : ∀ c, l.foldl f c = l.foldl g c := by
  induction l with
  | nil => intro c; rfl
  | cons x l ih =>
    intro c
    simp only [List.foldl_cons]
    rw [h c x List.mem_cons_self]
    exact ih (fun c j hj => h c j (List.mem_cons_of_mem _ hj)) _
theorem fold_id {α : Type} {l : List Nat} {f : α → Nat → α} (h : ∀ c j, j ∈ l → f c j = c) : ∀ c, l.foldl f c = c := by
  induction l with
  | nil => intro c; rfl
  | cons x l ih =>
    intro c
    simp only [List.foldl_cons]
    rw [h c x List.mem_cons_self]
    exact ih (fun c j hj => h c j (List.mem_cons_of_mem _ hj)) _

theorem cur_congr {E E' : Nat → Eff} {m : Nat} {L L' : Nat → Bool} {n : Nat} {o : Obj}
    (hh : ∀ j, j < m → (if L j then ((E j).puts.lookup n) else none) = (if L' j then ((E' j).puts.lookup n) else none)) : cur E m L n o = cur E' m L' n o := by
  unfold cur
  apply fold_congr
  intro c j hj
  have := hh j (List.mem_range.1 hj)
  by_cases h1 : L j = true <;> by_cases h2 : L' j = true <;> simp only [h1, h2, if_true, if_false, Bool.false_eq_true] at this ⊢
  · rw [this]
  · rw [this]; rfl
  · rw [← this]; rfl
/-- The last one that writes it. -/
theorem cur_last {E : Nat → Eff} {m i : Nat} {L : Nat → Bool} {n : Nat} {o x : Obj} (him : i < m) (hi : L i = true) (hx : (E i).puts.lookup n = some x)
    (hl : ∀ j, i < j → j < m → L j = true → (E j).puts.lookup n = none) : cur E m L n o = x := by
  unfold cur
  obtain ⟨k, rfl⟩ : ∃ k, m = (i + 1) + k := ⟨m - (i + 1), by omega⟩
  rw [List.range_add, List.foldl_append, List.range_succ, List.foldl_append]
  simp only [List.foldl_cons, List.foldl_nil, hi, hx, if_true, Option.getD_some]
  apply fold_id
  intro c j hj
  rw [List.mem_map] at hj
  obtain ⟨j', hj', rfl⟩ := hj
  have hj'' := List.mem_range.1 hj'
  by_cases hL : L (i + 1 + j') = true
  · rw [if_pos hL, hl _ (by omega) (by omega) hL]; rfl
  · rw [if_neg hL]

theorem dstOf_lt {ops : Array Oper} {i t : Nat} (h : dstOf ops i = some t) : i < ops.size := by
  unfold dstOf at h
  by_cases hl : i < ops.size
  · exact hl
  · rw [Array.getElem?_eq_none (by omega)] at h; exact absurd h (by simp)
theorem dst_inj {ops : Array Oper} {n i j t : Nat} (h : DstOk ops n = true) (hi : dstOf ops i = some t) (hj : dstOf ops j = some t) : i = j := by
  have key : ∀ i j, j < i → dstOf ops i = some t → dstOf ops j = some t → False := by
    intro i j hlt hi hj
    unfold DstOk at h
    rw [List.all_eq_true] at h
    have h1 := h i (List.mem_range.2 (dstOf_lt hi))
    rw [Bool.and_eq_true, List.all_eq_true] at h1
    have h2 := h1.2 j (List.mem_range.2 hlt)
    rw [hi, hj] at h2
    simp at h2
  rcases Nat.lt_trichotomy i j with hlt | rfl | hlt
  · exact (key j i hlt hj hi).elim
  · rfl
  · exact (key i j hlt hi hj).elim
theorem dst_in {ops : Array Oper} {n i t : Nat} (h : DstOk ops n = true) (hi : dstOf ops i = some t) : t < n := by
  unfold DstOk at h
  rw [List.all_eq_true] at h
  have h1 := h i (List.mem_range.2 (dstOf_lt hi))
  rw [Bool.and_eq_true] at h1
  have h2 := h1.1
  rw [hi] at h2
  simpa using h2
theorem put_get (A : Act) (dst : Option Nat) (v : Value) (t : Nat) : (A.put dst v).tmps[t]? = if dst = some t ∧ t < A.tmps.size then some v else A.tmps[t]? := by
  cases dst with
  | none => simp [Act.put]
  | some d =>
    simp only [Act.put, Array.getElem?_setIfInBounds, Option.some.injEq]
    by_cases h : d = t
    · subst h
      by_cases hl : d < A.tmps.size
      · simp [hl]
      · simp [hl]
    · simp [h]
theorem writer_some {ops : Array Oper} {t j : Nat} (h : writer ops t = some j) : dstOf ops j = some t := by
  unfold writer at h
  have := List.find?_some h
  simpa using this
theorem writer_none {ops : Array Oper} {t : Nat} (h : writer ops t = none) : ∀ i, i < ops.size → dstOf ops i ≠ some t := by
  unfold writer at h
  rw [List.find?_eq_none] at h
  intro i hi he
  exact h i (List.mem_range.2 hi) (by simp [he])

section
variable {P : Program} {ops : Array Oper} {D : List Nat} {l : List (Nat × Value)} {a : Act} {w0 : World} {h : List (Nat × Obj)} {F0 : World → Prop}
variable {vals : (Nat → Orc) → Nat → Value} {effs : (Nat → Orc) → Nat → Eff} {fact : (Nat → Orc) → Nat → World → Prop} {Q : Exit → Act → World → Prop}

theorem eval_eq {L : Nat → Bool} {A : Act} {w : World} {ρ : Nat → Orc} (hI : RInv ops D w0 h F0 vals effs fact a L A w ρ) (hok : DstOk ops a.tmps.size = true) {i : Nat} (hi : L i = false)
    (hd : ∀ j, dep D i j = true → L j = true) {x : Operand} (hx : (match x with | .tmp t => lookOk ops D l i t | _ => true) = true) (hfr : Fr a.tmps.size l a) : evalAt ops D l (vals ρ) i x = A.eval x := by
  cases x with
  | tmp t =>
    simp only at hx
    unfold evalAt lookAt
    unfold lookOk at hx
    simp only [Act.eval]
    cases hw : writer ops t with
    | none =>
      rw [hw] at hx
      obtain ⟨v, hv⟩ := Option.isSome_iff_exists.1 hx
      rw [Array.getD_eq_getD_getElem?, hI.kept t (fun j hj hjt => absurd hjt (writer_none hw j hj)), hv, hfr.slot t v hv]
    | some j =>
      rw [hw] at hx
      have hjt := writer_some hw
      simp only [] at hx ⊢
      by_cases hdj : dep D i j = true
      · rw [if_pos hdj, Array.getD_eq_getD_getElem?, hI.done j t hjt (hd j hdj)]; rfl
      · rw [if_neg hdj]
        have hdj' : dep D i j = false := by simpa using hdj
        rw [hdj', Bool.false_or, Bool.and_eq_true] at hx
        obtain ⟨hx, hv⟩ := hx
        obtain ⟨v, hv⟩ := Option.isSome_iff_exists.1 hv
        have hLj : L j = false := by
          cases hb : L j with
          | false => rfl
          | true =>
            simp at hx
            rcases hx with rfl | hx
            · rw [hi] at hb; exact hb.symm
            · rw [hI.closed j i hb hx] at hi; exact absurd hi (by simp)
        rw [Array.getD_eq_getD_getElem?, hI.kept t (fun k hk hkt => by rw [dst_inj hok hkt hjt]; exact hLj), hv, hfr.slot t v hv]
  | const v => rfl
  | global g => rfl
  | func f => rfl

theorem want_eq {L : Nat → Bool} {A : Act} {w : World} {ρ : Nat → Orc} (hI : RInv ops D w0 h F0 vals effs fact a L A w ρ) {i : Nat} {o : Oper}
    (hd : ∀ j, dep D i j = true → L j = true) (hg : (match o.guard with | none => true | some (j, _) => dep D i j && (dstOf ops j).isSome) = true) : Region.wanted o (yielded ops A.tmps) = wantV (vals ρ) o := by
  unfold Region.wanted wantV
  cases hgd : o.guard with
  | none => rfl
  | some gb =>
    obtain ⟨g, b⟩ := gb
    rw [hgd] at hg
    simp only [Bool.and_eq_true] at hg
    obtain ⟨hg1, hg2⟩ := hg
    obtain ⟨t, ht⟩ := Option.isSome_iff_exists.1 hg2
    have h1 := hI.done g t ht (hd g hg1)
    simp only []
    unfold yielded
    rw [show ((ops[g]?).bind (·.dst)) = some t from ht]
    simp only [Option.bind_some, h1]
    cases vals ρ g <;> first | rfl | (simp only []; rename_i c; cases c <;> cases b <;> rfl)

theorem born_mono {L L' : Nat → Bool} {n : Nat} (hh : ∀ j, L j = true → L' j = true) (hb : born h L n = true) : born h L' n = true := by
  unfold born at *
  rw [Bool.or_eq_true] at *
  exact hb.imp id (hh _)
theorem blk_congr {E E' : Nat → Eff} {n : Nat} (hh : ¬ n < h.length → E ((n - h.length) / 8) = E' ((n - h.length) / 8)) : blk h E n = blk h E' n := by
  unfold blk
  by_cases hn : n < h.length
  · rw [if_pos hn, if_pos hn]
  · rw [if_neg hn, if_neg hn, hh hn]

theorem given_of {L : Nat → Bool} {A : Act} {w : World} {ρ : Nat → Orc} (hI : RInv ops D w0 h F0 vals effs fact a L A w ρ) {i : Nat} (hi : L i = false)
    (hd : ∀ j, dep D i j = true → L j = true) : Given ops D w0 h F0 effs fact i ρ (fun b => ∃ n o, born h L n = true ∧ blk h (effs ρ) n = some (b, o)) w := by
  refine ⟨?_, hI.below, ?_, ?_, hI.facts0, fun j hj => hI.facts j (hd j hj)⟩
  · rintro b ⟨n, o, hb, hn⟩
    have h1 := (hI.live n b o hn hb).2
    by_cases hl : b < w.heap.size
    · exact hl
    · rw [Array.getElem?_eq_none (by omega)] at h1; exact absurd h1 (by simp)
  · intro n b o hn hok
    unfold okN at hok
    rw [Bool.and_eq_true, List.all_eq_true] at hok
    have hb := born_mono hd hok.1
    obtain ⟨h1, h2⟩ := hI.live n b o hn hb
    refine ⟨?_, ⟨n, o, hb, hn⟩, h1⟩
    rw [h2]
    congr 1
    apply cur_congr
    intro j hj
    have h3 := hok.2 j (List.mem_range.2 hj)
    by_cases hdj : dep D i j = true
    · rw [hd j hdj, hdj]
    · have hdj' : dep D i j = false := by simpa using hdj
      rw [hdj'] at h3 ⊢
      simp only [Bool.or_false, Bool.or_eq_true, decide_eq_true_eq] at h3
      rw [if_neg (c := (false = true)) (by simp)]
      by_cases hLj : L j = true
      · rw [if_pos hLj]
        rcases h3 with (h3 | h3) | h3
        · simpa using h3
        · rw [hI.closed j i hLj h3] at hi; exact absurd hi (by simp)
        · rw [h3, hi] at hLj; exact absurd hLj (by simp)
      · rw [if_neg hLj]
  · intro n n' b b' o o' hne hn hn' hk hk'
    unfold okN at hk hk'
    rw [Bool.and_eq_true] at hk hk'
    exact hI.inj n n' b b' o o' hne hn hn' (born_mono hd hk.1) (born_mono hd hk'.1)

def addL (L : Nat → Bool) (i : Nat) : Nat → Bool := fun j => L j || decide (j = i)

theorem after_inv {L : Nat → Bool} {A : Act} {w w' : World} {ρ : Nat → Orc} {v : Value} {i : Nat} (hI : RInv ops D w0 h F0 vals effs fact a L A w ρ) (hok : DstOk ops a.tmps.size = true) (hi : L i = false) (his : i < ops.size)
    (hd : ∀ j, dep D i j = true → L j = true) (hlt : ∀ j, dep D i j = true → j < i) (hloc : ∀ j, j < ops.size → Loc D vals effs fact j)
    (hA : After ops D h vals effs fact i ρ (fun b => ∃ n o, born h L n = true ∧ blk h (effs ρ) n = some (b, o)) w v w') : ∃ ρ', RInv ops D w0 h F0 vals effs fact a (addL L i) (A.put (dstOf ops i) v) w' ρ' := by
  obtain ⟨r, rfl, hU, hP, hN, hND, hF⟩ := hA
  have hG := given_of hI hi hd
  have hii : dep D i i = false := by
    cases hb : dep D i i with
    | false => rfl
    | true => exact absurd (hlt i hb) (by omega)
  have same : ∀ j, L j = true → vals (upd ρ i r) j = vals ρ j ∧ effs (upd ρ i r) j = effs ρ j ∧ fact (upd ρ i r) j = fact ρ j := by
    intro j hj
    apply hloc j (hI.lsz j hj)
    intro k hk
    unfold upd
    rw [if_neg]
    rintro rfl
    rcases hk with rfl | hk
    · rw [hj] at hi; exact absurd hi (by simp)
    · rw [hI.closed j k hj hk] at hi; exact absurd hi (by simp)
  have bsame : ∀ n, born h L n = true → blk h (effs (upd ρ i r)) n = blk h (effs ρ) n := by
    intro n hb
    apply blk_congr
    intro hn
    unfold born at hb
    rw [decide_eq_false hn, Bool.false_or] at hb
    exact (same _ hb).2.1
  have hX : ∀ b, (∃ n o o', (n, o) ∈ (effs (upd ρ i r) i).puts ∧ blk h (effs ρ) n = some (b, o')) → ∃ n o, born h L n = true ∧ blk h (effs ρ) n = some (b, o) := by
    rintro b ⟨n, o, o', hm, hb⟩
    have h1 := (hP n o hm).1
    unfold okN at h1
    rw [Bool.and_eq_true] at h1
    exact ⟨n, o', born_mono hd h1.1, hb⟩
  have bsplit : ∀ n, born h (addL L i) n = true → born h L n = true ∨ (¬ n < h.length ∧ (n - h.length) / 8 = i) := by
    intro n hb
    unfold born addL at *
    rw [Bool.or_eq_true] at hb
    rcases hb with hb | hb
    · exact Or.inl (by rw [hb]; rfl)
    · rw [Bool.or_eq_true] at hb
      rcases hb with hb | hb
      · exact Or.inl (by rw [hb]; simp)
      · by_cases hn : n < h.length
        · exact Or.inl (by simp [hn])
        · exact Or.inr ⟨hn, by simpa using hb⟩
  have hnotborn : ∀ n, ¬ n < h.length → (n - h.length) / 8 = i → born h L n = false := by
    intro n hn he
    unfold born
    rw [decide_eq_false hn, he, hi]; rfl
  have hiput : ∀ n o, (n, o) ∈ (effs (upd ρ i r) i).puts → born h L n = true := by
    intro n o hm
    have h1 := (hP n o hm).1
    unfold okN at h1
    rw [Bool.and_eq_true] at h1
    exact born_mono hd h1.1
  have blt : ∀ n b o, born h L n = true → blk h (effs ρ) n = some (b, o) → b < w.heap.size := fun n b o hb hn => hG.lt b ⟨n, o, hb, hn⟩
  have newT : ∀ b, (∃ n o, born h (addL L i) n = true ∧ blk h (effs (upd ρ i r)) n = some (b, o)) → (∃ n o, born h L n = true ∧ blk h (effs ρ) n = some (b, o)) ∨ b ∈ (effs (upd ρ i r) i).news.map (·.1) := by
    rintro b ⟨n, o, hb, hn⟩
    rcases bsplit n hb with hb | ⟨hn1, hn2⟩
    · rw [bsame n hb] at hn; exact Or.inl ⟨n, o, hb, hn⟩
    · right
      unfold blk at hn
      rw [if_neg hn1, hn2] at hn
      exact List.mem_map.2 ⟨(b, o), List.mem_of_getElem? hn, rfl⟩
  have newge : ∀ b, b ∈ (effs (upd ρ i r) i).news.map (·.1) → w.heap.size ≤ b := by
    intro b hb
    rw [List.mem_map] at hb
    obtain ⟨⟨b', o⟩, hm, rfl⟩ := hb
    obtain ⟨k, hk⟩ := List.getElem?_of_mem hm
    exact (hN k b' o hk).1
  refine ⟨upd ρ i r, ?_, ?_, ?_, ?_, ?_, ?_, ?_, ?_, ?_, ?_, ?_, ?_⟩
  · have hd' := hI.defers
    unfold Act.put; split <;> exact hd'
  · have hl' := hI.len
    unfold Act.put; split
    · simpa using hl'
    · exact hl'
  · intro j hj
    unfold addL at hj
    rw [Bool.or_eq_true] at hj
    rcases hj with hj | hj
    · exact hI.lsz j hj
    · have : j = i := by simpa using hj
      omega
  · intro j t hjt hjl
    rw [put_get]
    by_cases hij : j = i
    · subst hij
      rw [if_pos ⟨hjt, by rw [hI.len]; exact dst_in hok hjt⟩]
    · have hj : L j = true := by
        unfold addL at hjl
        rw [Bool.or_eq_true] at hjl
        rcases hjl with hjl | hjl
        · exact hjl
        · exact absurd (by simpa using hjl) hij
      rw [if_neg (fun hc => hij (dst_inj hok hjt hc.1)), hI.done j t hjt hj, (same j hj).1]
  · intro t ht
    rw [put_get]
    by_cases hc : dstOf ops i = some t
    · have := ht i his hc
      unfold addL at this
      simp at this
    · rw [if_neg (fun h => hc h.1)]
      refine hI.kept t (fun j hj hjt => ?_)
      have := ht j hj hjt
      unfold addL at this
      rw [Bool.or_eq_false_iff] at this
      exact this.1
  · intro j k hj hk
    unfold addL at *
    rw [Bool.or_eq_true] at *
    left
    rcases hj with hj | hj
    · exact hI.closed j k hj hk
    · have e : j = i := by simpa using hj
      rw [e] at hk; exact hd k hk
  · refine hI.below.trans ⟨hU.os, hU.tape, hU.output, hU.size, fun k hk => hU.block k (Nat.lt_of_lt_of_le hk hI.below.size) ?_⟩
    intro hx
    obtain ⟨n, o, hb, hn⟩ := hX k hx
    have := (hI.live n k o hn hb).1
    omega
  · intro n b o hn hb
    rcases bsplit n hb with hb | ⟨hn1, hn2⟩
    · rw [bsame n hb] at hn
      obtain ⟨h1, h2⟩ := hI.live n b o hn hb
      refine ⟨h1, ?_⟩
      cases hl : (effs (upd ρ i r) i).puts.lookup n with
      | none =>
        rw [hU.block b (blt n b o hb hn) ?_, h2]
        · congr 1
          apply cur_congr
          intro j hj
          by_cases hji : j = i
          · subst hji
            rw [hi]; unfold addL; simp [hl]
          · have e1 : addL L i j = L j := by unfold addL; simp [hji]
            rw [e1]
            by_cases hLj : L j = true
            · rw [if_pos hLj, if_pos hLj, (same j hLj).2.1]
            · rw [if_neg hLj, if_neg hLj]
        · rintro ⟨n2, o2, o3, hm, hb2⟩
          have hne : n2 ≠ n := by
            rintro rfl
            exact lookup_none_of hl o2 hm
          exact hI.inj n2 n b b o3 o hne hb2 hn (hiput n2 o2 hm) hb rfl
      | some x =>
        have hm := mem_of_lookup hl
        obtain ⟨hk1, b', o', hb', hw⟩ := hP n x hm
        rw [hn] at hb'
        simp only [Option.some.injEq, Prod.mk.injEq] at hb'
        rw [← hb'.1, hl] at hw
        rw [hw]
        congr 1
        symm
        show cur _ _ _ _ _ = x
        apply cur_last his (by unfold addL; simp) hl
        intro j hij hj hLj
        have hji : j ≠ i := by omega
        have hLj' : L j = true := by unfold addL at hLj; simpa [hji] using hLj
        rw [(same j hLj').2.1]
        unfold okN at hk1
        rw [Bool.and_eq_true, List.all_eq_true] at hk1
        have h3 := hk1.2 j (List.mem_range.2 hj)
        simp only [Bool.or_eq_true, decide_eq_true_eq] at h3
        rcases h3 with ((h3 | h3) | h3) | h3
        · simpa using h3
        · exact absurd (hlt j h3) (by omega)
        · rw [hI.closed j i hLj' h3] at hi; exact absurd hi (by simp)
        · exact absurd h3 hji
    · unfold blk at hn
      rw [if_neg hn1, hn2] at hn
      obtain ⟨h1, h2⟩ := hN _ b o hn
      refine ⟨Nat.le_trans hI.below.size h1, ?_⟩
      rw [h2]
      congr 1
      symm
      unfold cur
      apply fold_id
      intro c j hj
      by_cases hLj : addL L i j = true
      · rw [if_pos hLj]
        have hnone : (effs (upd ρ i r) j).puts.lookup n = none := by
          cases hl : (effs (upd ρ i r) j).puts.lookup n with
          | none => rfl
          | some x =>
            have hm := mem_of_lookup hl
            have hbn : born h L n = true := by
              by_cases hji : j = i
              · subst hji; exact hiput n x hm
              · have hLj' : L j = true := by unfold addL at hLj; simpa [hji] using hLj
                rw [(same j hLj').2.1] at hm
                exact hI.putsOk j n x hLj' hm
            rw [hnotborn n hn1 hn2] at hbn
            exact absurd hbn (by simp)
        rw [hnone]; rfl
      · rw [if_neg hLj]
  · intro n n' b b' o o' hne hn hn' hb hb'
    rcases bsplit n hb with hb | ⟨hn1, hn2⟩ <;> rcases bsplit n' hb' with hb' | ⟨hn1', hn2'⟩
    · rw [bsame n hb] at hn; rw [bsame n' hb'] at hn'
      exact hI.inj n n' b b' o o' hne hn hn' hb hb'
    · rw [bsame n hb] at hn
      have h1 := blt n b o hb hn
      unfold blk at hn'
      rw [if_neg hn1', hn2'] at hn'
      have h2 := (hN _ b' o' hn').1
      omega
    · rw [bsame n' hb'] at hn'
      have h1 := blt n' b' o' hb' hn'
      unfold blk at hn
      rw [if_neg hn1, hn2] at hn
      have h2 := (hN _ b o hn).1
      omega
    · unfold blk at hn hn'
      rw [if_neg hn1, hn2] at hn
      rw [if_neg hn1', hn2'] at hn'
      rintro rfl
      have e : (n - h.length) % 8 = (n' - h.length) % 8 := by
        have q1 : ((effs (upd ρ i r) i).news.map (·.1))[(n - h.length) % 8]? = some b := by rw [List.getElem?_map, hn]; rfl
        have q2 : ((effs (upd ρ i r) i).news.map (·.1))[(n' - h.length) % 8]? = some b := by rw [List.getElem?_map, hn']; rfl
        obtain ⟨l1, q1'⟩ := List.getElem?_eq_some_iff.1 q1
        obtain ⟨l2, q2'⟩ := List.getElem?_eq_some_iff.1 q2
        have hpw := List.pairwise_iff_getElem.1 hND
        rcases Nat.lt_trichotomy ((n - h.length) % 8) ((n' - h.length) % 8) with hl | hl | hl
        · exact absurd (q1'.trans q2'.symm) (hpw _ _ l1 l2 hl)
        · exact hl
        · exact absurd (q2'.trans q1'.symm) (hpw _ _ l2 l1 hl)
      omega
  · refine hI.facts0.upd hU hX ?_
    intro b hb
    rcases newT b hb with h1 | h1
    · exact Or.inl h1
    · exact Or.inr (newge b h1)
  · intro j hj
    by_cases hji : j = i
    · subst hji
      obtain ⟨S, hS1, hS2⟩ := hF
      exact ⟨S, fun b hb => ⟨(hS1 b hb).1, fun hT => (hS1 b hb).2 (newT b hT)⟩, hS2⟩
    · have hLj : L j = true := by unfold addL at hj; simpa [hji] using hj
      rw [(same j hLj).2.2]
      refine (hI.facts j hLj).upd hU hX ?_
      intro b hb
      rcases newT b hb with h1 | h1
      · exact Or.inl h1
      · exact Or.inr (newge b h1)
  · intro j n o hj hm
    have up : ∀ n, born h L n = true → born h (addL L i) n = true := fun n hb => born_mono (fun k hk => by unfold addL; rw [hk]; rfl) hb
    by_cases hji : j = i
    · subst hji; exact up n (hiput n o hm)
    · have hLj : L j = true := by unfold addL at hj; simpa [hji] using hj
      rw [(same j hLj).2.1] at hm
      exact up n (hI.putsOk j n o hLj hm)

theorem step_inv {L : Nat → Bool} {A : Act} {w : World} {ρ : Nat → Orc} {i : Nat} (hI : RInv ops D w0 h F0 vals effs fact a L A w ρ) (hok : DstOk ops a.tmps.size = true) (hi : L i = false) (his : i < ops.size)
    (hd : ∀ j, dep D i j = true → L j = true) (hlt : ∀ j, dep D i j = true → j < i) (hlook : LooksOk ops D l = true) (hfr : Fr a.tmps.size l a) (hloc : ∀ j, j < ops.size → Loc D vals effs fact j)
    (hobl : Obl P ops D l w0 h F0 vals effs fact i) : wpOp P ops Q i (fun A' w' => ∃ ρ', RInv ops D w0 h F0 vals effs fact a (addL L i) A' w' ρ') A w := by
  obtain ⟨o, ho⟩ : ∃ o, ops[i]? = some o := ⟨_, Array.getElem?_eq_getElem his⟩
  have hlk : opLooksOk ops D l i o = true := by
    unfold LooksOk at hlook
    rw [List.all_eq_true] at hlook
    have := hlook i (List.mem_range.2 his)
    rw [ho] at this
    simpa using this
  unfold opLooksOk at hlk
  simp only [Bool.and_eq_true] at hlk
  obtain ⟨⟨k1, k2⟩, k3⟩ := hlk
  have hG := given_of hI hi hd
  have hO := hobl o ho ρ _ w hG
  have hw := want_eq hI hd k3
  have hdst : o.dst = dstOf ops i := by unfold dstOf; rw [ho]; rfl
  have hex : execOp (evalAt ops D l (vals ρ) i) o = execOp A.eval o := by
    apply execOp_congr
    · intro cs b hs
      rw [hs] at k2; simp at k2
    · intro x hx
      rw [Array.all_eq_true_iff_forall_mem] at k1
      exact eval_eq hI hok hi hd (k1 x hx) hfr
  unfold wpOp
  rw [ho]
  simp only []
  rw [hw]
  by_cases hwant : wantV (vals ρ) o = true
  · rw [if_pos hwant] at hO ⊢
    refine Or.inl (wp_of_opv (by rw [← hex]; exact hO) (fun v w' hA => ?_))
    rw [hdst]
    exact after_inv hI hok hi his hd hlt hloc hA
  · rw [if_neg hwant] at hO ⊢
    rw [hdst]
    exact after_inv hI hok hi his hd hlt hloc hO

/-- The slots that are kept in mind behind the region. -/
def finL (ops : Array Oper) (l : List (Nat × Value)) (V : Nat → Value) (keep : List Nat) : List (Nat × Value) :=
  keep.map fun t => (t, match writer ops t with | some j => V j | none => (l.lookup t).getD undef)
def keepOk (ops : Array Oper) (l : List (Nat × Value)) (keep : List Nat) : Bool := keep.all fun t => (writer ops t).isSome || (l.lookup t).isSome
/-- The blocks behind the region. -/
def finH (m : Nat) (h : List (Nat × Obj)) (E : Nat → Eff) : List (Nat × Obj) :=
  (h.mapIdx fun n x => (x.1, cur E m (fun _ => true) n x.2)) ++ (List.range m).flatMap fun j => ((E j).news.take 8).mapIdx fun k x => (x.1, cur E m (fun _ => true) (h.length + 8 * j + k) x.2)

/-- What is known of the world: blocks of the call's own, what they hold; facts that hang on no such block. -/
structure St (w0 : World) (h : List (Nat × Obj)) (F : World → Prop) (w : World) : Prop where
  below : Below w0.heap.size w0 w
  at_ : ∀ x ∈ h, w0.heap.size ≤ x.1 ∧ w.heap[x.1]? = some x.2
  nodup : (h.map (·.1)).Nodup
  facts : Pers (fun b => b ∈ h.map (·.1)) F w

theorem inv_start {w : World} (hS : St w0 h F0 w) (ρ : Nat → Orc) : RInv ops D w0 h F0 vals effs fact a (fun _ => false) a w ρ := by
  have hb : ∀ n, born h (fun _ => false) n = true → n < h.length := by
    intro n hh
    unfold born at hh
    simpa using hh
  have hblk : ∀ n b o, born h (fun _ => false) n = true → blk h (effs ρ) n = some (b, o) → h[n]? = some (b, o) := by
    intro n b o h1 h2
    unfold blk at h2
    rw [if_pos (hb n h1)] at h2
    exact h2
  refine ⟨rfl, rfl, fun i hi => by simp at hi, fun i t _ hi => by simp at hi, fun _ _ => rfl, fun i j hi => by simp at hi, hS.below, ?_, ?_, ?_, fun i hi => by simp at hi, fun i n o hi => by simp at hi⟩
  · intro n b o hn hh
    have h1 := hblk n b o hh hn
    obtain ⟨h2, h3⟩ := hS.at_ (b, o) (List.mem_of_getElem? h1)
    refine ⟨h2, ?_⟩
    rw [h3]
    congr 1
    symm
    unfold cur
    exact fold_id (fun c j _ => by simp) o
  · intro n n' b b' o o' hne hn hn' h1 h2
    have q1 := hblk n b o h1 hn
    have q2 := hblk n' b' o' h2 hn'
    rintro rfl
    have hpw := List.pairwise_iff_getElem.1 hS.nodup
    have p1 : (h.map (·.1))[n]? = some b := by rw [List.getElem?_map, q1]; rfl
    have p2 : (h.map (·.1))[n']? = some b := by rw [List.getElem?_map, q2]; rfl
    obtain ⟨l1, p1'⟩ := List.getElem?_eq_some_iff.1 p1
    obtain ⟨l2, p2'⟩ := List.getElem?_eq_some_iff.1 p2
    rcases Nat.lt_trichotomy n n' with hl | hl | hl
    · exact absurd (p1'.trans p2'.symm) (hpw _ _ l1 l2 hl)
    · exact hne hl
    · exact absurd (p2'.trans p1'.symm) (hpw _ _ l2 l1 hl)
  · obtain ⟨S, hS1, hS2⟩ := hS.facts
    refine ⟨S, fun b hbS => ⟨(hS1 b hbS).1, ?_⟩, hS2⟩
    rintro ⟨n, o, h1, h2⟩
    exact (hS1 b hbS).2 (List.mem_map.2 ⟨(b, o), List.mem_of_getElem? (hblk n b o h1 h2), rfl⟩)

theorem RInv.congrL {L L' : Nat → Bool} {A : Act} {w : World} {ρ : Nat → Orc} (hI : RInv ops D w0 h F0 vals effs fact a L A w ρ) (he : ∀ i, L i = L' i) : RInv ops D w0 h F0 vals effs fact a L' A w ρ := by
  rw [← funext he]; exact hI

theorem inv_end {L : Nat → Bool} {A : Act} {w : World} {ρ : Nat → Orc} (hI : RInv ops D w0 h F0 vals effs fact a L A w ρ) (hL : ∀ i, i < ops.size → L i = true) (hfr : Fr a.tmps.size l a) :
    (∀ keep, keepOk ops l keep = true → Fr a.tmps.size (finL ops l (vals ρ) keep) A) ∧ St w0 (finH ops.size h (effs ρ)) (fun w => F0 w ∧ ∀ i, i < ops.size → fact ρ i w) w := by
  refine ⟨?_, ?_⟩
  · intro keep hkeep
    refine ⟨hI.defers.trans hfr.defers, hI.len, fun t v hv => ?_⟩
    have hm := mem_of_lookupV hv
    unfold finL at hm
    obtain ⟨t', ht', he⟩ := List.mem_map.1 hm
    simp only [Prod.mk.injEq] at he
    obtain ⟨rfl, rfl⟩ := he
    unfold keepOk at hkeep
    rw [List.all_eq_true] at hkeep
    have hk := hkeep t' ht'
    cases hw : writer ops t' with
    | none =>
      rw [hw] at hk
      obtain ⟨v, hv⟩ := Option.isSome_iff_exists.1 (show (l.lookup t').isSome = true from by simpa using hk)
      rw [hI.kept t' (fun i hi hit => absurd hit (writer_none hw i hi)), hv]
      exact hfr.slot t' v hv
    | some j =>
      have hjt := writer_some hw
      rw [hI.done j t' hjt (hL j (dstOf_lt hjt))]
  · have curL : ∀ n o, cur (effs ρ) ops.size (fun _ => true) n o = cur (effs ρ) ops.size L n o := by
      intro n o
      apply cur_congr
      intro j hj
      rw [hL j hj]
    have bornL : ∀ n, born h L n = true → ∀ b o, blk h (effs ρ) n = some (b, o) → (b, cur (effs ρ) ops.size (fun _ => true) n o) ∈ finH ops.size h (effs ρ) := by
      intro n hb b o hn
      unfold finH blk at *
      by_cases hl : n < h.length
      · rw [if_pos hl] at hn
        refine List.mem_append_left _ (List.mem_iff_getElem?.2 ⟨n, ?_⟩)
        rw [List.getElem?_mapIdx, hn]; rfl
      · rw [if_neg hl] at hn
        have hj : (n - h.length) / 8 < ops.size := by
          unfold born at hb
          rw [decide_eq_false hl, Bool.false_or] at hb
          exact hI.lsz _ hb
        refine List.mem_append_right _ (List.mem_flatMap.2 ⟨(n - h.length) / 8, List.mem_range.2 hj, List.mem_iff_getElem?.2 ⟨(n - h.length) % 8, ?_⟩⟩)
        rw [List.getElem?_mapIdx, List.getElem?_take_of_lt (Nat.mod_lt _ (by omega)), hn]
        simp only [Option.map_some]
        rw [show h.length + 8 * ((n - h.length) / 8) + (n - h.length) % 8 = n by omega]
    have memH : ∀ x ∈ finH ops.size h (effs ρ), ∃ n o, born h L n = true ∧ blk h (effs ρ) n = some (x.1, o) ∧ x.2 = cur (effs ρ) ops.size L n o := by
      intro x hx
      unfold finH at hx
      rcases List.mem_append.1 hx with hx | hx
      · obtain ⟨n, hn⟩ := List.mem_iff_getElem?.1 hx
        rw [List.getElem?_mapIdx] at hn
        cases hq : h[n]? with
        | none => rw [hq] at hn; simp at hn
        | some y =>
          rw [hq] at hn
          simp only [Option.map_some, Option.some.injEq] at hn
          have hl : n < h.length := (List.getElem?_eq_some_iff.1 hq).1
          refine ⟨n, y.2, by unfold born; simp [hl], ?_, ?_⟩
          · unfold blk; rw [if_pos hl, hq, ← hn]
          · rw [← hn, curL]
      · obtain ⟨j, hj, hx⟩ := List.mem_flatMap.1 hx
        obtain ⟨k, hk⟩ := List.mem_iff_getElem?.1 hx
        rw [List.getElem?_mapIdx] at hk
        have hk8 : k < 8 := by
          by_cases h' : k < 8
          · exact h'
          · rw [List.getElem?_take_eq_none (by omega)] at hk; simp at hk
        rw [List.getElem?_take_of_lt hk8] at hk
        cases hq : (effs ρ j).news[k]? with
        | none => rw [hq] at hk; simp at hk
        | some y =>
          rw [hq] at hk
          simp only [Option.map_some, Option.some.injEq] at hk
          refine ⟨h.length + 8 * j + k, y.2, ?_, ?_, ?_⟩
          · unfold born
            rw [show (h.length + 8 * j + k - h.length) / 8 = j by omega, hL j (List.mem_range.1 hj)]; simp
          · unfold blk
            rw [if_neg (by omega), show (h.length + 8 * j + k - h.length) / 8 = j by omega, show (h.length + 8 * j + k - h.length) % 8 = k by omega, hq, ← hk]
          · rw [← hk, curL]
    refine ⟨hI.below, ?_, ?_, ?_⟩
    · intro x hx
      obtain ⟨n, o, hb, hn, he⟩ := memH x hx
      rw [he]
      exact hI.live n x.1 o hn hb
    · have e1 : (finH ops.size h (effs ρ)).map (·.1) = h.map (·.1) ++ (List.range ops.size).flatMap fun j => ((effs ρ j).news.take 8).map (·.1) := by
        unfold finH
        rw [List.map_append, List.map_flatMap]
        congr 1
        · apply List.ext_getElem?
          intro n
          rw [List.getElem?_map, List.getElem?_mapIdx, List.getElem?_map]
          cases h[n]? <;> rfl
        · congr 1
          funext j
          apply List.ext_getElem?
          intro n
          rw [List.getElem?_map, List.getElem?_mapIdx, List.getElem?_map]
          cases ((effs ρ j).news.take 8)[n]? <;> rfl
      rw [e1]
      have nb : ∀ j k b o, j < ops.size → k < 8 → (effs ρ j).news[k]? = some (b, o) → born h L (h.length + 8 * j + k) = true ∧ blk h (effs ρ) (h.length + 8 * j + k) = some (b, o) := by
        intro j k b o hj hk hq
        constructor
        · unfold born
          rw [show (h.length + 8 * j + k - h.length) / 8 = j by omega, hL j hj]; simp
        · unfold blk
          rw [if_neg (by omega), show (h.length + 8 * j + k - h.length) / 8 = j by omega, show (h.length + 8 * j + k - h.length) % 8 = k by omega, hq]
      have ob : ∀ n b o, h[n]? = some (b, o) → born h L n = true ∧ blk h (effs ρ) n = some (b, o) := by
        intro n b o hq
        have hl : n < h.length := (List.getElem?_eq_some_iff.1 hq).1
        exact ⟨by unfold born; simp [hl], by unfold blk; rw [if_pos hl, hq]⟩
      have getm : ∀ (l : List (Nat × Obj)) (i : Nat) (hi : i < (l.map (·.1)).length), ∃ o, l[i]? = some ((l.map (·.1))[i], o) := by
        intro l i hi
        have hi' : i < l.length := by simpa using hi
        exact ⟨l[i].2, by rw [List.getElem?_eq_getElem hi']; simp⟩
      refine List.nodup_append.2 ⟨?_, ?_, ?_⟩
      · refine List.pairwise_iff_getElem.2 (fun i j hi hj hij => ?_)
        obtain ⟨o1, q1⟩ := getm h i hi
        obtain ⟨o2, q2⟩ := getm h j hj
        obtain ⟨b1, k1⟩ := ob _ _ _ q1
        obtain ⟨b2, k2⟩ := ob _ _ _ q2
        exact hI.inj i j _ _ _ _ (by omega) k1 k2 b1 b2
      · refine List.pairwise_flatMap.2 ⟨?_, ?_⟩
        · intro j hj
          refine List.pairwise_iff_getElem.2 (fun i i' hi hi' hij => ?_)
          obtain ⟨o1, q1⟩ := getm _ i hi
          obtain ⟨o2, q2⟩ := getm _ i' hi'
          have l1 : i < 8 := by simp at hi; omega
          have l2 : i' < 8 := by simp at hi'; omega
          rw [List.getElem?_take_of_lt l1] at q1
          rw [List.getElem?_take_of_lt l2] at q2
          obtain ⟨b1, k1⟩ := nb j i _ _ (List.mem_range.1 hj) l1 q1
          obtain ⟨b2, k2⟩ := nb j i' _ _ (List.mem_range.1 hj) l2 q2
          exact hI.inj _ _ _ _ _ _ (by omega) k1 k2 b1 b2
        · refine List.pairwise_iff_getElem.2 (fun i i' hi hi' hij => ?_)
          intro x hx y hy
          simp only [List.getElem_range] at hx hy
          obtain ⟨k, hk, hx'⟩ := List.mem_iff_getElem.1 hx
          obtain ⟨k', hk', hy'⟩ := List.mem_iff_getElem.1 hy
          obtain ⟨o1, q1⟩ := getm _ k hk
          obtain ⟨o2, q2⟩ := getm _ k' hk'
          have l1 : k < 8 := by simp at hk; omega
          have l2 : k' < 8 := by simp at hk'; omega
          rw [List.getElem?_take_of_lt l1] at q1
          rw [List.getElem?_take_of_lt l2] at q2
          obtain ⟨b1, k1⟩ := nb i k _ _ (by simpa using hi) l1 q1
          obtain ⟨b2, k2⟩ := nb i' k' _ _ (by simpa using hi') l2 q2
          rw [← hx', ← hy']
          exact hI.inj _ _ _ _ _ _ (by omega) k1 k2 b1 b2
      · intro x hx y hy
        obtain ⟨n, hn, hx'⟩ := List.mem_iff_getElem.1 hx
        obtain ⟨j, hj, hy⟩ := List.mem_flatMap.1 hy
        obtain ⟨k, hk, hy'⟩ := List.mem_iff_getElem.1 hy
        obtain ⟨o1, q1⟩ := getm _ n hn
        obtain ⟨o2, q2⟩ := getm _ k hk
        have l2 : k < 8 := by simp at hk; omega
        have l1 : n < h.length := by simpa using hn
        rw [List.getElem?_take_of_lt l2] at q2
        obtain ⟨b1, k1⟩ := ob n _ _ q1
        obtain ⟨b2, k2⟩ := nb j k _ _ (List.mem_range.1 hj) l2 q2
        rw [← hx', ← hy']
        exact hI.inj _ _ _ _ _ _ (by omega) k1 k2 b1 b2
    · have join : ∀ l : List Nat, (∀ i ∈ l, i < ops.size) → Pers (fun b => ∃ n o, born h L n = true ∧ blk h (effs ρ) n = some (b, o)) (fun w => F0 w ∧ ∀ i ∈ l, fact ρ i w) w := by
        intro l
        induction l with
        | nil =>
          intro _
          obtain ⟨S, h1, h2⟩ := hI.facts0
          exact ⟨S, h1, fun w' hw => ⟨h2 w' hw, fun i hi => by simp at hi⟩⟩
        | cons x l ih =>
          intro hl
          obtain ⟨S, h1, h2⟩ := ih (fun i hi => hl i (List.mem_cons_of_mem _ hi))
          obtain ⟨S', h1', h2'⟩ := hI.facts x (hL x (hl x List.mem_cons_self))
          refine ⟨fun b => S b ∨ S' b, fun b hb => hb.elim (h1 b) (h1' b), fun w' hw => ?_⟩
          obtain ⟨q1, q2⟩ := h2 w' (fun b hb => hw b (Or.inl hb))
          have q3 := h2' w' (fun b hb => hw b (Or.inr hb))
          exact ⟨q1, fun i hi => by
            rcases List.mem_cons.1 hi with rfl | hi
            · exact q3
            · exact q2 i hi⟩
      obtain ⟨S, h1, h2⟩ := join (List.range ops.size) (fun i hi => List.mem_range.1 hi)
      refine ⟨S, fun b hb => ⟨(h1 b hb).1, fun hm => (h1 b hb).2 ?_⟩, fun w' hw => ?_⟩
      · obtain ⟨x, hx, rfl⟩ := List.mem_map.1 hm
        obtain ⟨n, o, q1, q2, _⟩ := memH x hx
        exact ⟨n, o, q1, q2⟩
      · obtain ⟨q1, q2⟩ := h2 w' hw
        exact ⟨q1, fun i hi => q2 i (List.mem_range.2 hi)⟩
end
end Go.Proofs.Ytlgjdejlnelndaa
