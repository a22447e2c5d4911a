/-
  What this statement needs, part 3: the texts of it, one behind the other.
-/
import Derived.Test.YtaebcmpbbamfpaaGreatDoorBase2
import Derived.ChangeKeysEq
import Derived.Laws.StructEq
set_option maxRecDepth 100000
namespace Go.Proofs.YtaebcmpbbamfpaaGreatDoor
open Go Go.RowKit
theorem Rs.pers0 {w : World} {a : Option Addr} {vs : List Value} (h : Rs w a vs) : Pers (fun _ => False) (fun w => Rs w a vs) w := h.pers apart0
def gU (ns : List Nat) (j : Nat) : Nat := ns.getD j default
structure Us (w : World) (a : Option Addr) (c : Nat) (ns : List Nat) : Prop where
  le : ns.length ≤ c
  max : ns.length ≤ 1000000
  rows : Rs w a (kU.r ns)
  ok : ∀ n ∈ ns, n < M
theorem Us.nil {w : World} {a : Option Addr} {c : Nat} : Us w a c [] := ⟨by simp, by simp, Or.inl rfl, by simp⟩
theorem Us.persA {T : Nat → Prop} {w : World} {a : Option Addr} {c : Nat} {ns : List Nat} (h : Us w a c ns) (hT : Apart T a (kU.r ns).length) : Pers T (fun w => Us w a c ns) w :=
  (h.rows.pers hT).mono (fun _ hr => ⟨h.le, h.max, hr, h.ok⟩)
theorem Us.pers0 {w : World} {a : Option Addr} {c : Nat} {ns : List Nat} (h : Us w a c ns) : Pers (fun _ => False) (fun w => Us w a c ns) w := h.persA apart0
theorem gU_ok {ns : List Nat} (h : ∀ n ∈ ns, n < M) (j : Nat) : gU ns j < M := getD_all h zeroM j
theorem Us.pos {w : World} {a : Option Addr} {c : Nat} {ns : List Nat} (h : Us w a c ns) {i : Nat} (hi : i < ns.length) : Rs w a (kU.r ns) ∧ 0 < (kU.r ns).length := ⟨h.rows, by rw [kU.r_len]; omega⟩
section
variable {P : Program} {t e : TypeId} {w : World} {a : Option Addr} {c : Nat} {ns : List Nat}
theorem Us.idx (ht : P.underlying t = some (.slice e)) (hs : ∀ w, (sizeOf e).run P w = .ok 4 w) {m : Nat} {k : IntKind} {z : Int} {j : Nat} (h : Us w a c ns) (hm : m = ns.length) (hz : z = (j : Int)) (hj : j < ns.length) :
    (do pure (Next.value (← Instr.indexAt t (.slice a m c) (.int k z))) : Sem Next).run P w = .ok (.value (.pointer (adr a (j * 4)))) w := idx_rs ht hs (h.pos hj).1 (h.pos hj).2 hz (by omega)
theorem Us.ldA {i : Nat} (ha : ∀ w, (isAgg e).run P w = .ok true w) (hs : ∀ w, (sizeOf e).run P w = .ok 4 w) (h : Us w a c ns) (hi : i < ns.length) :
    (do pure (Next.value (← Instr.loadAt e (.pointer (adr a (i * 4))))) : Sem Next).run P w = .ok (.value (U (gU ns i))) w := by
  have h1 := ld_rsA (us := (cU (gU ns i)).toList) ha hs h.rows (by simp []) (by decide) (fun j hj => fm_get (f := kU.f) kU.len ns i j hi hj)
  rw [Array.toArray_toList] at h1; exact h1
theorem slice_hi (ht : P.underlying t = some (.slice e)) {sz : Nat} (hs : ∀ w, (sizeOf e).run P w = .ok sz w) {n m k : Nat} {hi' : Value} (hm : m = n) (hh : hi' = .int .i64 (k : Int)) (hk : k ≤ n) (hc : n ≤ c) {r : Nat} (hr : k = r) :
    (do pure (Next.value (← Instr.sliceAt t (.slice a m c) none (some hi') none)) : Sem Next).run P w = .ok (.value (.slice a r c)) w := by
  subst hm hh hr
  have hs := hs w
  have h2 : k ≤ c := by omega
  have hb1 : (Instr.sliceBounds true m c none (some (.int .i64 (k : Int))) none).run P w = .ok (0, k, c) w := by
    simp [Instr.sliceBounds, Instr.sliceBound, asIntOf, h2]
  have hz : a.map (·.add (0 * sz)) = a := by
    cases a with
    | none => rfl
    | some p => simp [Addr.add]
  simp [Instr.sliceAt, Instr.slice, run_underlying ht, hs, hb1]
  intro hc0
  rw [Nat.zero_mul] at hz
  exact hz
theorem slice_lo (ht : P.underlying t = some (.slice e)) {sz : Nat} (hs : ∀ w, (sizeOf e).run P w = .ok sz w) {n m k : Nat} {lo' : Value} (hm : m = n) (hh : lo' = .int .i64 (k : Int)) (hk : k ≤ n) (hc : n ≤ c) {r : Nat} (hr : n - k = r) :
    (do pure (Next.value (← Instr.sliceAt t (.slice a m c) (some lo') none none)) : Sem Next).run P w = .ok (.value (.slice (if c = k then a else a.map (·.add (k * sz))) r (c - k))) w := by
  subst hm hh hr
  have hs := hs w
  have hb1 : (Instr.sliceBounds true m c (some (.int .i64 (k : Int))) none none).run P w = .ok (k, m, c) w := by
    simp [Instr.sliceBounds, Instr.sliceBound, asIntOf, hk]
  simp [Instr.sliceAt, Instr.slice, run_underlying ht, hs, hb1]
end
section
variable {α : Type} {sz : Nat} (K : RowK α sz)
theorem RowK.r_take : ∀ (l : List α) (k : Nat), K.r (l.take k) = (K.r l).take (k * sz)
  | [], k => by simp [RowK.r]
  | x :: r, 0 => by simp [RowK.r]
  | x :: r, k + 1 => by
    have hl : (K.f x).length = sz := K.len x
    have h1 : (K.f x).take ((k + 1) * sz) = K.f x := List.take_of_length_le (by rw [hl, Nat.add_mul, Nat.one_mul]; omega)
    have h2 : (k + 1) * sz - sz = k * sz := by rw [Nat.add_mul, Nat.one_mul]; omega
    show K.f x ++ K.r (r.take k) = (K.f x ++ K.r r).take ((k + 1) * sz)
    rw [List.take_append, hl, h1, h2, r_take r k]
theorem RowK.r_drop : ∀ (l : List α) (k : Nat), K.r (l.drop k) = (K.r l).drop (k * sz)
  | [], k => by simp [RowK.r]
  | x :: r, 0 => by simp [RowK.r]
  | x :: r, k + 1 => by
    have hl : (K.f x).length = sz := K.len x
    have h1 : (K.f x).drop ((k + 1) * sz) = [] := List.drop_of_length_le (by rw [hl, Nat.add_mul, Nat.one_mul]; omega)
    have h2 : (k + 1) * sz - sz = k * sz := by rw [Nat.add_mul, Nat.one_mul]; omega
    show K.r (r.drop k) = (K.f x ++ K.r r).drop ((k + 1) * sz)
    rw [List.drop_append, hl, h1, h2, r_drop r k]; rfl
end
theorem Us.take {w : World} {a : Option Addr} {c : Nat} {ns : List Nat} (h : Us w a c ns) (k : Nat) : Us w a c (ns.take k) := by
  refine ⟨Nat.le_trans (by rw [List.length_take]; exact Nat.min_le_right _ _) h.le, Nat.le_trans (by rw [List.length_take]; exact Nat.min_le_right _ _) h.max, ?_, fun n hn => h.ok n (List.mem_of_mem_take hn)⟩
  rw [RowK.r_take]
  exact h.rows.take _
theorem Us.drop {w : World} {a : Option Addr} {c : Nat} {ns : List Nat} (h : Us w a c ns) {k : Nat} (hk : k ≤ ns.length) : Us w (if c = k then a else a.map (·.add (k * 4))) (c - k) (ns.drop k) := by
  have hle := h.le
  refine ⟨by rw [List.length_drop]; omega, by rw [List.length_drop]; have := h.max; omega, ?_, fun n hn => h.ok n (List.mem_of_mem_drop hn)⟩
  by_cases hc : c = k
  · have : ns.drop k = [] := List.eq_nil_of_length_eq_zero (by rw [List.length_drop]; omega)
    rw [this]; exact Or.inl rfl
  · rw [if_neg hc, RowK.r_drop]
    exact h.rows.drop _
section
variable {P : Program} {ops : Array Oper} {D : List Nat} {l : List (Nat × Value)} {w0 : Base} {h : List (Nat × Obj)} {F0 : World → Prop}
variable {vals : (Nat → Orc) → Nat → Value} {effs : (Nat → Orc) → Nat → Eff} {fact : (Nat → Orc) → Nat → World → Prop}
theorem o_callV (i : Nat) (f : FuncId) (args : (Nat → Orc) → Array Value) (v : (Nat → Orc) → Option Addr → Nat → Value) (Φ : (Nat → Orc) → World → Option Addr → Nat → Prop)
    (hf : ∀ ρ T w, Given ops D w0 h F0 effs fact i ρ T w → Calls P f (args ρ) w (fun e w' => ∃ a c, e = .returned (v ρ a c) ∧ Below w.heap.size w w' ∧ Pers (fun b => b < w.heap.size) (fun w => Φ ρ w a c) w'))
    (hc : ∀ ρ z, callChkF P ops D l (vals ρ) i z = some (.enter f (args ρ), [], []) := by intros; kernel_rfl)
    (hv : ∀ ρ r, vals (upd ρ i r) i = v ρ r.a (r.n.headD 0) := by intros; kernel_rfl) (he : ∀ ρ r, effs (upd ρ i r) i = {} := by intros; kernel_rfl)
    (ht : ∀ ρ r, fact (upd ρ i r) i = (fun w => Φ ρ w r.a (r.n.headD 0)) := by intros; kernel_rfl) : Obl P ops D l w0 h F0 vals effs fact i := by
  refine o_callG i f args hc he (fun ρ T w hG => (hf ρ T w hG).mono (fun e w' hew => ?_))
  obtain ⟨a, c, h1, h2, h3⟩ := hew
  refine ⟨h2, { n := [c], a := a }, ?_, ?_⟩
  · rw [hv]; exact h1
  · rw [ht]; exact h3
theorem o_callWB (i : Nat) (ns : List Nat) (f : FuncId) (args : (Nat → Orc) → Array Value) (v : (Nat → Orc) → Option Addr → Nat → Value) (xs : (Nat → Orc) → List UInt8) (K K' : (Nat → Orc) → List (Nat × Obj))
    (hf : ∀ ρ T w, Given ops D w0 h F0 effs fact i ρ T w → Knows (K ρ) w → Calls P f (args ρ) w (fun e w' => ∃ a c, e = .returned (v ρ a c) ∧ Upd (fun b => b ∈ (K ρ).map (·.1)) w w' ∧ Knows (K' ρ) w' ∧ Fs w w' a c (xs ρ)))
    (hc : ∀ ρ z, callChkF P ops D l (vals ρ) i z = some (.enter f (args ρ), [], []) := by intros; kernel_rfl)
    (hv : ∀ ρ r, vals (upd ρ i r) i = v ρ r.a (r.n.headD 0) := by intros; kernel_rfl) (he : ∀ ρ r, effs (upd ρ i r) i = { puts := ns.zip (K' ρ) } := by intros; kernel_rfl)
    (hn : ∀ ρ, namesOk ops D h (effs ρ) i ns = true := by intros; kernel_rfl) (hk : ∀ ρ, known ops D h (effs ρ) i ns = K ρ := by intros; kernel_rfl) (hl : ∀ ρ, (K' ρ).map (·.1) = (K ρ).map (·.1) := by intros; kernel_rfl)
    (ht : ∀ ρ r, fact (upd ρ i r) i = (fun w => Fs w0.w w r.a (r.n.headD 0) (xs ρ)) := by intros; kernel_rfl) : Obl P ops D l w0 h F0 vals effs fact i := by
  refine o_callGW i ns f args K (fun ρ _ => K' ρ) hc he hn hk (fun ρ _ => hl ρ) (fun ρ T w hG hK => (hf ρ T w hG hK).mono (fun e w' hew => ?_))
  obtain ⟨a, c, h1, h2, h3, h4⟩ := hew
  refine ⟨h2, { n := [c], a := a }, ?_, h3, ?_⟩
  · rw [hv]; exact h1
  · rw [ht]; exact (h4.pers (fun b hb => hb)).mono (fun _ hx => hx.older hG.below.size)
theorem qV {i : Nat} {f : FuncId} {args : (Nat → Orc) → Array Value} {v : (Nat → Orc) → Option Addr → Nat → Value} {Φ : (Nat → Orc) → World → Option Addr → Nat → Prop}
    (hf : ∀ ρ T w, Given ops D w0 h F0 effs fact i ρ T w → Calls P f (args ρ) w (fun e w' => ∃ a c, e = .returned (v ρ a c) ∧ Below w.heap.size w w' ∧ Pers (fun b => b < w.heap.size) (fun w => Φ ρ w a c) w'))
    (hc : ∀ ρ z, callChkF P ops D l (vals ρ) i z = some (.enter f (args ρ), [], []) := by intros; kernel_rfl)
    (hv : ∀ ρ r, vals (upd ρ i r) i = v ρ r.a (r.n.headD 0) := by intros; kernel_rfl) (he : ∀ ρ r, effs (upd ρ i r) i = {} := by intros; kernel_rfl)
    (ht : ∀ ρ r, fact (upd ρ i r) i = (fun w => Φ ρ w r.a (r.n.headD 0)) := by intros; kernel_rfl) : Obl P ops D l w0 h F0 vals effs fact i := o_callV i f args v Φ hf hc hv he ht
theorem qWB {i : Nat} (ns : List Nat) {f : FuncId} {args : (Nat → Orc) → Array Value} {v : (Nat → Orc) → Option Addr → Nat → Value} {xs : (Nat → Orc) → List UInt8} {K K' : (Nat → Orc) → List (Nat × Obj)}
    (hf : ∀ ρ T w, Given ops D w0 h F0 effs fact i ρ T w → Knows (K ρ) w → Calls P f (args ρ) w (fun e w' => ∃ a c, e = .returned (v ρ a c) ∧ Upd (fun b => b ∈ (K ρ).map (·.1)) w w' ∧ Knows (K' ρ) w' ∧ Fs w w' a c (xs ρ)))
    (hc : ∀ ρ z, callChkF P ops D l (vals ρ) i z = some (.enter f (args ρ), [], []) := by intros; kernel_rfl)
    (hv : ∀ ρ r, vals (upd ρ i r) i = v ρ r.a (r.n.headD 0) := by intros; kernel_rfl) (he : ∀ ρ r, effs (upd ρ i r) i = { puts := ns.zip (K' ρ) } := by intros; kernel_rfl)
    (hn : ∀ ρ, namesOk ops D h (effs ρ) i ns = true := by intros; kernel_rfl) (hk : ∀ ρ, known ops D h (effs ρ) i ns = K ρ := by intros; kernel_rfl) (hl : ∀ ρ, (K' ρ).map (·.1) = (K ρ).map (·.1) := by intros; kernel_rfl)
    (ht : ∀ ρ r, fact (upd ρ i r) i = (fun w => Fs w0.w w r.a (r.n.headD 0) (xs ρ)) := by intros; kernel_rfl) : Obl P ops D l w0 h F0 vals effs fact i := o_callWB i ns f args v xs K K' hf hc hv he hn hk hl ht
end
theorem Us.new {w0 w : World} {g c : Nat} {C : Array Value} {e : TypeId} {fr : Nat × Nat} {ns : List Nat} (hg : w0.heap.size ≤ g ∧ w.heap[g]? = some (.cells C e fr)) (hA : kU.A C ns c) (hm : ns.length ≤ 1000000) (ok : ∀ n ∈ ns, n < M) : Pers (fun b => b < w0.heap.size) (fun w => Us w (some ⟨g, 0, none⟩) c ns) w :=
  (rsP (fun _ hb => hb) hg hA).mono (fun _ hr => ⟨hA.le, hm, hr, ok⟩)
theorem Is.none {w : World} {k : IntKind} {a : Option Addr} {c : Nat} {ps : List Nat} (h : Is w k a c (nI ps)) (hn : a.isNone = true) : ps = [] := by
  cases a with
  | none =>
    rcases h.rows with h0 | ⟨p, hp, _⟩
    · have := congrArg List.length h0
      rw [iv_length, nI_len] at this
      exact List.eq_nil_of_length_eq_zero this
    · exact absurd hp (by simp)
  | some p => simp at hn
theorem TmF.pathN {w : World} {a : Option Addr} {c : Nat} {ts : List TmA} (h : TmF w a c ts) {i j : Nat} (hi : i < ts.length) (hj : j < (gT ts i).ks.length) (hn : (gK (gT ts i).ks j).pa.isNone = true) : (gK (gT ts i).ks j).ps = [] :=
  ((h.sub _ (gT_mem hi)).sub _ (gK_mem hj)).none hn
theorem ix_a {p : KpA} {i : Nat} (hw : p.wd = false) (hn : p.ps = []) : p.ix i = [] := by unfold KpA.ix; rw [hw, hn]; rfl
theorem ix_b {p : KpA} {i : Nat} (hw : p.wd = true) (hn : p.ps = []) : p.ix i = [i] := by unfold KpA.ix; rw [hw, hn]; rfl
theorem ix_c {p : KpA} {i : Nat} (hw : p.wd = false) : p.ix i = p.ps := by unfold KpA.ix; rw [hw]; rfl
theorem ix_d {p : KpA} {i : Nat} (hw : p.wd = true) : p.ix i = p.ps ++ [i] := by unfold KpA.ix; rw [hw]; rfl
theorem u32Z {z : Int} (h1 : decide (z < 0) = false) (h2 : decide (1000 ≤ z) = false) : IntKind.u32.wrap z = ((z.toNat : Nat) : Int) := by
  have a := of_decide_eq_false h1; have b := of_decide_eq_false h2
  have e : z = ((z.toNat : Nat) : Int) := by omega
  rw [e]; exact u32N (by omega)
theorem z32n {z : Int} (h1 : decide (z < 0) = false) (h2 : decide (1000 ≤ z) = false) : z.toNat < 4294967296 := by
  have a := of_decide_eq_false h1; have b := of_decide_eq_false h2
  omega
theorem aK_at {ts : List TmA} {i : Nat} (hi : i < ts.length) : aK (ts.drop i) = (gT ts i).ks.drop 0 ++ aK (ts.drop (i + 1)) := by rw [dropD hi]; rfl
theorem vl_ks {ts : List TmA} (h : vlB ts = true) {i : Nat} (hi : i < ts.length) : (gT ts i).ks.length ≤ 15 := by
  have hf := List.all_eq_true.1 (vl_get h).2.2.1 _ (gT_mem hi)
  have := (fd_iff _ _ _ _ _).1 hf
  unfold FdP at this
  omega
theorem vl_ps {ts : List TmA} (h : vlB ts = true) {i j : Nat} (hi : i < ts.length) (hj : j < (gT ts i).ks.length) : (gK (gT ts i).ks j).ps.length ≤ 8 := by
  have hv := List.all_eq_true.1 (List.all_eq_true.1 (vl_get h).2.2.2 _ (gT_mem hi)) _ (gK_mem hj)
  unfold KpA.vp at hv
  simp only [Bool.and_eq_true, decide_eq_true_eq] at hv
  exact hv.1
theorem aK_le : ∀ ts : List TmA, (∀ t ∈ ts, t.ks.length ≤ 15) → (aK ts).length ≤ 15 * ts.length
  | [], _ => Nat.le_refl _
  | t :: r, h => by
    have a := h t (List.mem_cons_self ..)
    have b := aK_le r fun t ht => h t (List.mem_cons_of_mem _ ht)
    show (t.ks ++ aK r).length ≤ _
    rw [List.length_append, List.length_cons]; omega
theorem vl_aK {ts : List TmA} (h : vlB ts = true) : (aK ts).length ≤ 120 := by
  have h8 := (vl_get h).1
  have := aK_le ts fun t ht => by
    obtain ⟨i, hi, e⟩ := List.mem_iff_getElem.1 ht
    have := vl_ks h hi
    rwa [show gT ts i = t by unfold gT; rw [List.getD_eq_getElem?_getD, List.getElem?_eq_getElem hi, e]; rfl] at this
  omega
section
variable {i0 i j : Nat} {ts : List TmA} {N T : List Nat} {E : Int} {R : List KpA}
theorem kn_in (hi : i < ts.length) (hN : N ++ ksN i0 (aK (ts.drop i)) = T) : N ++ ksN i0 ((gT ts i).ks.drop 0 ++ aK (ts.drop (i + 1))) = T := by rw [← aK_at hi]; exact hN
theorem ke_in (hi : i < ts.length) (hE : ksE i0 (aK (ts.drop i)) = E) : ksE i0 ((gT ts i).ks.drop 0 ++ aK (ts.drop (i + 1))) = E := by rw [← aK_at hi]; exact hE
theorem kn_out {ks : List KpA} (hj : ks.length ≤ j) (hN : N ++ ksN i0 (ks.drop j ++ R) = T) : N ++ ksN i0 R = T := by rw [List.drop_eq_nil_of_le hj] at hN; exact hN
theorem ke_out {ks : List KpA} (hj : ks.length ≤ j) (hE : ksE i0 (ks.drop j ++ R) = E) : ksE i0 R = E := by rw [List.drop_eq_nil_of_le hj] at hE; exact hE
theorem kn_next {ks : List KpA} {q : List Nat} (hj : j < ks.length) (hq : (gK ks j).ix i0 = q) (hN : N ++ ksN i0 (ks.drop j ++ R) = T) : (N ++ [(drK (gK ks j).k q).p]) ++ ksN i0 (ks.drop (j + 1) ++ R) = T := by
  rw [dropD hj] at hN
  rw [← hN, List.append_assoc, ← hq]; rfl
theorem ke_next {ks : List KpA} {q : List Nat} (hj : j < ks.length) (hq : (gK ks j).ix i0 = q) (he : (drE (gK ks j).k q != 0) = false) (hE : ksE i0 (ks.drop j ++ R) = E) : ksE i0 (ks.drop (j + 1) ++ R) = E := by
  have h0 : drE (gK ks j).k ((gK ks j).ix i0) = 0 := by rw [hq]; exact bneI0 he
  rw [dropD hj] at hE
  rw [← hE]
  show _ = ksE i0 (gK ks j :: (ks.drop (j + 1) ++ R))
  rw [ksE, if_pos h0]
theorem ke_stop {ks : List KpA} {q : List Nat} (hj : j < ks.length) (hq : (gK ks j).ix i0 = q) (he : (drE (gK ks j).k q != 0) = true) (hE : ksE i0 (ks.drop j ++ R) = E) : E = drE (gK ks j).k q := by
  have h0 : ¬ drE (gK ks j).k ((gK ks j).ix i0) = 0 := by rw [hq]; exact bneI he
  rw [dropD hj] at hE
  rw [← hE]
  show ksE i0 (gK ks j :: (ks.drop (j + 1) ++ R)) = _
  rw [ksE, if_neg h0, hq]
theorem kn_len (hv : vlB ts = true) {L : List KpA} (hN : N ++ ksN i0 L = ksN i0 (aK ts)) : N.length + L.length ≤ 120 := by
  have := congrArg List.length hN
  unfold ksN at this
  rw [List.length_append, List.length_map, List.length_map] at this
  have := vl_aK hv
  omega
end
theorem drop_app {α : Type} [Inhabited α] {l R : List α} {j : Nat} (h : j < l.length) : 0 < (l.drop j ++ R).length := by rw [dropD h]; simp
section
variable {ts : List TmA} {z : Int}
theorem ky_bad (h : vlB ts = false) : kyE ts z = 260 ∧ kyN ts z = [] := by
  have e : kyE ts z = 260 := by unfold kyE; rw [h]; rfl
  exact ⟨e, by unfold kyN; rw [e]; rfl⟩
theorem ky_rng (h : vlB ts = true) (hz : ¬ (0 ≤ z ∧ z < 1000)) : kyE ts z = 5 ∧ kyN ts z = [] := by
  have e : kyE ts z = 5 := by unfold kyE; rw [if_pos h, if_neg hz]
  exact ⟨e, by unfold kyN; rw [e]; rfl⟩
theorem ky_err (h : vlB ts = true) (h1 : decide (z < 0) = false) (h2 : decide (1000 ≤ z) = false) {e : Int} (he : ksE z.toNat (aK ts) = e) (hne : (e != 0) = true) : kyE ts z = e ∧ kyN ts z = [] := by
  have q : kyE ts z = e := by unfold kyE; rw [if_pos h, if_pos ⟨by have := of_decide_eq_false h1; omega, by have := of_decide_eq_false h2; omega⟩, he]
  exact ⟨q, by unfold kyN; rw [q, if_neg (bneI hne)]⟩
theorem ky_ok (h : vlB ts = true) (h1 : decide (z < 0) = false) (h2 : decide (1000 ≤ z) = false) {N : List Nat} {i : Nat} (hi : ts.length ≤ i) (hE : ksE z.toNat (aK (ts.drop i)) = ksE z.toNat (aK ts)) (hN : N ++ ksN z.toNat (aK (ts.drop i)) = ksN z.toNat (aK ts)) : kyE ts z = 0 ∧ kyN ts z = N := by
  rw [List.drop_eq_nil_of_le hi] at hE hN
  have q : kyE ts z = 0 := by unfold kyE; rw [if_pos h, if_pos ⟨by have := of_decide_eq_false h1; omega, by have := of_decide_eq_false h2; omega⟩, ← hE]; rfl
  exact ⟨q, by unfold kyN; rw [if_pos q, ← hN]; exact List.append_nil N⟩
end
section
variable {P : Program} {Q : Exit → Act → World → Prop} {n : Nat} {l : List (Nat × Value)} {w0 : Base} {h : List (Nat × Obj)} {F : World → Prop} {σ : Type}
def JoinP (P : Program) (y : Code) (Q : Exit → Act → World → Prop) (n : Nat) (w0 : Base) (L : σ → List (Nat × Value)) (H : σ → List (Nat × Obj)) (Fs : σ → World → Prop) (R : σ → Prop) : Prop := ∀ s, R s → Ok P y Q n (L s) w0 (H s) (Fs s)
variable (L : σ → List (Nat × Value)) (H : σ → List (Nat × Obj)) (Fs : σ → World → Prop) (R : σ → Prop)
theorem okJ2 {a b y : Code} (hJ : ∀ s, R s → Ok P y Q n (L s) w0 (H s) (Fs s)) (hx : JoinP P y Q n w0 L H Fs R → Ok P (.seq a (.seq b y)) Q n l w0 h F) : Ok P (.seq a (.seq b y)) Q n l w0 h F := hx hJ
variable {L H Fs R}
theorem okE {y : Code} (J : JoinP P y Q n w0 L H Fs R) (s : σ) (hR : R s) (hc : ∀ w, St w0 h F w → St w0 (H s) (Fs s) w) (hl : (L s).map (fun x => l.lookup x.1) = (L s).map (fun x => some x.2) := by kernel_rfl) : Ok P y Q n l w0 h F :=
  fun A w hf hs => J s hR A w (hf.sub _ (Subl.get hl)) (hc w hs)
end
section
variable {B : Base} {w : World} {h : List (Nat × Obj)} {F : World → Prop} {g : Nat} {o : Obj}
theorem erase_nin : ∀ {h : List (Nat × Obj)} {k : Nat}, (h.map (·.1)).Nodup → h[k]? = some (g, o) → g ∉ (h.eraseIdx k).map (·.1)
  | [], _, _, hk => by simp at hk
  | x :: r, 0, hn, hk => by
    obtain rfl : x = (g, o) := by simpa using hk
    rw [List.map_cons, List.nodup_cons] at hn
    exact hn.1
  | x :: r, k + 1, hn, hk => by
    rw [List.map_cons, List.nodup_cons] at hn
    have hk' : r[k]? = some (g, o) := by simpa using hk
    rw [List.eraseIdx_cons_succ, List.map_cons, List.mem_cons, not_or]
    refine ⟨fun e => hn.1 ?_, erase_nin hn.2 hk'⟩
    rw [← e]
    exact List.mem_map.2 ⟨_, List.mem_of_getElem? hk', rfl⟩
theorem St.froz (hS : St B h F w) (k : Nat) (hk : h[k]? = some (g, o)) (ks : List Nat) {h' : List (Nat × Obj)} (hh : selB ks (h.eraseIdx k) = h') {G : World → Prop} (hG : B.w.heap.size ≤ w.heap.size → w.heap[g]? = some o → g ∉ h'.map (·.1) → Pers (fun b => b ∈ h'.map (·.1)) G w) : St B h' (fun w => G w ∧ F w) w := by
  have h1 : List.Sublist h' (h.eraseIdx k) := hh ▸ selB_sub ks _
  have h2 := h1.trans (List.eraseIdx_sublist h k)
  refine hS.toFact h2 (hG hS.below.size (hS.at_ _ (List.mem_of_getElem? hk)).2 ?_)
  exact fun hm => erase_nin hS.nodup hk ((h1.map _).subset hm)
theorem St.frozI (hS : St B h F w) (k : Nat) {C : Array Value} {e : TypeId} {fr : Nat × Nat} {l : List Nat} {c : Nat} (hA : kI.A C l c) (hm : l.length ≤ 140737488351232) (ks : List Nat) {h' : List (Nat × Obj)} (hk : h[k]? = some (g, .cells C e fr) := by kernel_rfl) (hh : selB ks (h.eraseIdx k) = h' := by kernel_rfl) : St B h' (fun w => Is w .u32 (some ⟨g, 0, none⟩) c (nI l) ∧ F w) w :=
  hS.froz k hk ks hh (fun _ hg hn => (Is.of_kI hg hA hm).pers (fun p hp _ hx => by
    obtain rfl : (⟨g, 0, none⟩ : Addr) = p := by simpa using hp
    exact hn hx))
theorem St.frozN (hS : St B h F w) (ks : List Nat) {h' : List (Nat × Obj)} {k : IntKind} {a : Option Addr} {c : Nat} (hh : selB ks h = h' := by kernel_rfl) : St B h' (fun w => Is w k a c (nI []) ∧ F w) w := by
  have h1 : List.Sublist h' h := hh ▸ selB_sub ks _
  exact (hS.sub h1).weaken (fun _ hF => ⟨Is.nil, hF⟩)
end
def kK : RowK KpA 45 := ⟨fun p => p.row.toList, KpA.row_len, kp_one⟩
def kT : RowK TmA 36 := ⟨fun t => t.row.toList, TmA.row_len, TmA.row_one⟩
def zKp : Value := .agg (cU 0 ++ cU 0 ++ hB 0 ++ #[.int .i64 0, .int .u32 0, .int .u32 0, .slice none 0 0, .bool false])
theorem kpR_one (ks : List KpA) : ∀ u ∈ kpR ks, u.oneCell' = true := by
  intro u hu
  obtain ⟨p, _, hu⟩ := List.mem_flatMap.1 hu
  exact kp_one p u hu
theorem KpF.srcR {P : Program} {w : World} {a : Option Addr} {c : Nat} {ks : List KpA} {tx e' : TypeId} (hk : P.underlying tx = some (.slice e')) (h : KpF w a c ks) : Src P 45 tx (.slice a ks.length c) ks.length (kpR ks) w := by
  have hr : Rs w a (kpR ks) := h.rows
  cases a with
  | none =>
    have h0 : ks = [] := by
      rcases hr with h0 | ⟨p, hp, _⟩
      · have := congrArg List.length h0
        rw [kpR_len] at this
        exact List.eq_nil_of_length_eq_zero (by simp only [List.length_nil] at this; omega)
      · exact absurd hp (by simp)
    subst h0
    exact Src.ofNil w hk c
  | some p =>
    refine Src.ofSlice w hk p ks.length c (kpR ks) (kpR_len ks) ?_ (kpR_one ks)
    intro j u hu
    rcases hr with h0 | ⟨p', hp, hh⟩
    · rw [h0] at hu; simp at hu
    · obtain rfl : p = p' := by simpa using hp
      exact hh j u hu
theorem kK_r (ks : List KpA) : kK.r ks = kpR ks := by simp only [RowK.r, kpR, kK]
theorem kT_r (ts : List TmA) : kT.r ts = tmR ts := by simp only [RowK.r, tmR, kT]
theorem kK_f (p : KpA) : kK.f p = p.row.toList := by simp only [kK]
theorem KpF.src {P : Program} {w : World} {a : Option Addr} {c : Nat} {ks : List KpA} {tx e' : TypeId} (hk : P.underlying tx = some (.slice e')) (h : KpF w a c ks) : Src P 45 tx (.slice a ks.length c) ks.length (kK.r ks) w := by
  rw [kK_r]; exact h.srcR hk
theorem src_tn {P : Program} {w : World} {g n : Nat} {t : TmA} {T tx e' : TypeId} {fr : Nat × Nat} (hk : P.underlying tx = some (.slice e')) (hn : n = t.ks.length) (hb : w.heap[g]? = some (.cells (tmV t.kd t.m ((t.nu : Nat) : Int) t.h (.slice t.ka n t.kc)) T fr)) : Src P 36 tx (.slice (some ⟨g, 0, none⟩) 1 1) [t].length (kT.r [t]) w := by
  subst hn
  rw [kT_r]
  exact src_t1 hk hb
section
variable {P : Program} {ops : Array Oper} {D : List Nat} {l : List (Nat × Value)} {w0 : Base} {h : List (Nat × Obj)} {F0 : World → Prop}
variable {vals : (Nat → Orc) → Nat → Value} {effs : (Nat → Orc) → Nat → Eff} {fact : (Nat → Orc) → Nat → World → Prop}
theorem o_putS (i n : Nat) (s : (Nat → Orc) → Sem Next) (g : (Nat → Orc) → Nat) (ob ob' : (Nat → Orc) → Obj)
    (hr : ∀ ρ T w, Given ops D w0 h F0 effs fact i ρ T w → w.heap[g ρ]? = some (ob ρ) → ∃ w', (s ρ).run P w = .ok .skip w' ∧ Wrote w w' (g ρ) (ob' ρ))
    (hc : ∀ ρ, newChk ops (vals ρ) (vals (upd ρ i {}) i) (effs (upd ρ i {}) i) i = some (undef, { puts := [(n, g ρ, ob' ρ)] }) := by intros; kernel_rfl)
    (hn : ∀ ρ, namesOk ops D h (effs ρ) i [n] = true := by intros; kernel_rfl) (hk : ∀ ρ, known ops D h (effs ρ) i [n] = [(g ρ, ob ρ)] := by intros; kernel_rfl)
    (hx : ∀ ρ, execOp (evalAt ops D l (vals ρ) i) (opAt ops i) = s ρ := by intros; kernel_rfl) (ht : ∀ ρ, fact ρ i = fun _ => True := by intros; kernel_rfl) : Obl P ops D l w0 h F0 vals effs fact i := by
  have key : ∀ ρ, ((ops[i]?).isSome = true ∧ wantV (vals ρ) (opAt ops i) = true) ∧ undef = vals (upd ρ i {}) i ∧ effs (upd ρ i {}) i = { puts := [(n, g ρ, ob' ρ)] } := by
    intro ρ
    have h1 := hc ρ
    unfold newChk at h1
    split at h1
    · rename_i hb
      simp only [Bool.and_eq_true] at hb
      simp only [Option.some.injEq, Prod.mk.injEq] at h1
      exact ⟨hb, h1.1.symm, h1.2⟩
    · exact absurd h1 (by simp)
  intro o ho ρ T w hG
  have hoe := opAt_some (key ρ).1.1
  rw [ho] at hoe
  obtain rfl : o = opAt ops i := by simpa using hoe
  rw [if_pos (key ρ).1.2]
  obtain ⟨w', hrun, hwr⟩ := hr ρ T w hG (hG.known n (hn ρ) (hk ρ))
  unfold opv
  rw [hx ρ, hrun]
  have he := (key ρ).2.2
  have hn0 := hn ρ
  unfold namesOk at hn0
  rw [Bool.and_eq_true, List.all_eq_true] at hn0
  have hn1 := hn0.1 n (by simp)
  rw [Bool.and_eq_true] at hn1
  obtain ⟨q, hb⟩ := Option.isSome_iff_exists.1 hn1.1
  have hbg : cur (effs ρ) ops.size (dep D i) n q = (g ρ, ob ρ) := by
    have := hk ρ
    unfold known at this
    simp only [List.map_cons, List.map_nil, hb, List.cons.injEq, and_true] at this
    exact this
  refine ⟨{}, (key ρ).2.1, ?_, ?_, ?_, ?_, by rw [ht]; exact persT⟩
  · refine ⟨hwr.os, hwr.tape, hwr.output, by rw [hwr.size]; exact Nat.le_refl _, fun k hk' hX => hwr.other k ?_⟩
    rintro rfl
    exact hX ⟨n, _, q, by rw [he]; exact List.mem_cons_self, hb, by rw [hbg]⟩
  · rw [he]
    intro n' o' hm
    simp only [List.mem_singleton, Prod.mk.injEq] at hm
    obtain ⟨rfl, rfl⟩ := hm
    refine ⟨hn1.2, q, hb, ?_, Or.inl ?_⟩
    · simpa using hwr.at_
    · rw [hbg]; simp
  · rw [he]; intro k b' q' hk'; simp at hk'
  · rw [he]; simp
end
theorem st_agg {P : Program} {t : TypeId} {w : World} {g o m : Nat} {C : Array Value} {T : TypeId} {x : Value} {us : List Value} (hs : ∀ w, (sizeOf t).run P w = .ok m w) (hx : x.cells.toList = us) (hm : us.length = m) (h1 : us.all Value.oneCell' = true) (hfit : o + us.length ≤ C.size) (hb : w.heap[g]? = some (.cells C T (0, 0))) :
    ∃ w', (do Instr.storeAt t (.pointer (some ⟨g, o, none⟩)) x; pure Next.skip : Sem Next).run P w = .ok .skip w' ∧ Wrote w w' g (.cells (inpl C o us) T (0, 0)) := by
  refine ⟨_, ?_, wrote_row hb⟩
  have hst := run_storeCells_at P g o T us 0 C w hb (by omega) (fun v hv => List.all_eq_true.1 h1 v hv)
  simp only [Nat.add_zero] at hst
  have hsz : x.cells.size = m := by rw [← Array.length_toList, hx, hm]
  simp only [Instr.storeAt, Instr.sureAddr, storeVar, Sem.run_bind, Sem.run_pure, Result.andThen_ok, hs, hsz, hx]
  rw [if_neg (by simp), hst]
  rfl
theorem RowK.A.setP {α : Type} [Inhabited α] {sz : Nat} {K : RowK α sz} {C : Array Value} {l : List α} {c j : Nat} {us : List Value} {x' : α} (h : K.A C l c) (hj : j < l.length) (hu : us.length ≤ sz) (hx : K.f x' = us ++ (K.f (l.getD j default)).drop us.length) : K.A (inpl C (j * sz) us) (l.set j x') c := by
  have hlen : (l.set j x').length = l.length := List.length_set
  have hjs : (j + 1) * sz ≤ l.length * sz := Nat.mul_le_mul_right _ hj
  have hjs' : (j + 1) * sz = j * sz + sz := by rw [Nat.add_mul, Nat.one_mul]
  have hrl : (K.r l).length = l.length * sz := K.r_len l
  have hcz : l.length * sz ≤ C.size := by rw [Av.size h]; exact Nat.mul_le_mul_right _ (Av.le h)
  have hr : K.r (l.set j x') = (K.r l).take (j * sz) ++ us ++ (K.r l).drop (j * sz + us.length) := by
    have e : (K.r l).drop (j * sz + us.length) = (K.f (l.getD j default)).drop us.length ++ K.r (l.drop (j + 1)) := by
      have e1 : (K.r l).drop (j * sz) = K.f (l.getD j default) ++ K.r (l.drop (j + 1)) := by rw [← K.r_drop, dropD hj]; rfl
      rw [← List.drop_drop, e1, List.drop_append_of_le_length (by rw [K.len]; exact hu)]
    rw [e, ← K.r_take, List.set_eq_take_append_cons_drop, if_pos hj, K.r_app]
    show K.r (l.take j) ++ (K.f x' ++ K.r (l.drop (j + 1))) = _
    rw [hx]
    simp only [List.append_assoc]
  have hhd := Av.hd h
  have hfit : j * sz + us.length ≤ (K.r l).length := by rw [hrl]; omega
  refine ⟨?_, by rw [K.r_len], by rw [hlen]; exact Av.le h, ?_⟩
  · have hle : (K.r (l.set j x')).length = (K.r l).length := by rw [K.r_len, hlen, hrl]
    rw [hle, hr]
    unfold inpl
    rw [List.toList_toArray]
    have hX : (K.r l).length ≤ C.toList.length := by rw [hrl, Array.length_toList]; exact hcz
    have t1 : (K.r l).take (j * sz) = C.toList.take (j * sz) := by
      rw [← hhd, List.take_take, Nat.min_eq_left (by rw [hrl]; omega)]
    have t2 : (K.r l).drop (j * sz + us.length) = (C.toList.drop (j * sz + us.length)).take ((K.r l).length - (j * sz + us.length)) := by
      conv => lhs; rw [← hhd]
      rw [List.drop_take]
    have l1 : (C.toList.take (j * sz)).length = j * sz := by rw [List.length_take, Nat.min_eq_left (by rw [Array.length_toList]; omega)]
    have lA : (C.toList.take (j * sz) ++ us).length = j * sz + us.length := by rw [List.length_append, l1]
    rw [t1, t2]
    exact List.take_append.trans (by rw [List.take_of_length_le (show (C.toList.take (j * sz) ++ us).length ≤ (K.r l).length by rw [lA]; exact hfit), lA])
  · exact (inpl_size _ _ _ (by omega)).trans (Av.size h)
theorem RowK.A.fit {α : Type} {sz : Nat} {K : RowK α sz} {C : Array Value} {l : List α} {c j k : Nat} (h : K.A C l c) (hj : j < l.length) (hk : k ≤ sz) : j * sz + k ≤ C.size := by
  have h1 : (j + 1) * sz ≤ c * sz := Nat.mul_le_mul_right _ (Nat.le_trans hj (Av.le h))
  rw [Av.size h]
  have : (j + 1) * sz = j * sz + sz := by rw [Nat.add_mul, Nat.one_mul]
  omega
def KpA.nz (p : KpA) : KpA := ⟨p.k.neu, p.ps, p.wd, p.pa, p.pc⟩
theorem KpA.nz_row (p : KpA) : kK.f p.nz = (cU 0).toList ++ (kK.f p).drop 4 := by
  rw [kK_f, kK_f]
  unfold KpA.row kpV KpA.nz Ky.neu
  simp only [Array.toList_append, List.append_assoc]
  rw [List.drop_append, List.drop_of_length_le (by simp []), show (cU p.k.s).toList.length = 4 by simp [], Nat.sub_self, List.drop_zero, List.nil_append]
theorem KpA.nz_ok {p : KpA} (h : p.Ok) : p.nz.Ok := ⟨Ky.neu_ok h.k, h.d, h.ps⟩
def nzU (n : Nat) (ks : List KpA) : List KpA := (ks.take n).map KpA.nz ++ ks.drop n
theorem nzU_len (n : Nat) (ks : List KpA) : (nzU n ks).length = ks.length := by
  unfold nzU
  rw [List.length_append, List.length_map, List.length_take, List.length_drop]; omega
theorem nzU_end {n : Nat} {ks : List KpA} (h : ks.length ≤ n) : nzU n ks = ks.map KpA.nz := by
  unfold nzU
  rw [List.take_of_length_le h, List.drop_eq_nil_of_le h, List.append_nil]
theorem nzU_get {n : Nat} {ks : List KpA} (h : n < ks.length) : (nzU n ks).getD n default = ks.getD n default := by
  unfold nzU
  rw [dropD h, List.getD_eq_getElem?_getD, List.getElem?_append_right (by simp; omega)]
  simp [List.length_take, Nat.min_eq_left (Nat.le_of_lt h)]
theorem nzU_set {n : Nat} {ks : List KpA} (h : n < ks.length) : (nzU n ks).set n (ks.getD n default).nz = nzU (n + 1) ks := by
  unfold nzU
  have hl : ((ks.take n).map KpA.nz).length = n := by rw [List.length_map, List.length_take, Nat.min_eq_left (Nat.le_of_lt h)]
  rw [List.set_append_right _ _ (by rw [hl]; exact Nat.le_refl _), hl, Nat.sub_self, dropD h, List.set_cons_zero, List.take_add_one, List.getElem?_eq_getElem h, List.map_append, List.append_assoc]
  congr 1
  rw [List.getD_eq_getElem?_getD, List.getElem?_eq_getElem h]
  rfl
theorem nz_put {n : Nat} {ks : List KpA} {C : Array Value} {c : Nat} (h : kK.A C (nzU n ks) c) (hn : n < ks.length) : kK.A (inpl C (n * 45) (cU 0).toList) (nzU (n + 1) ks) c := by
  rw [← nzU_set hn]
  refine h.setP (by rw [nzU_len]; exact hn) (by simp []) ?_
  rw [nzU_get hn, KpA.nz_row, show (cU 0).toList.length = 4 by simp []]
def KpFs (w : World) (us : List TmA) : Prop := ∀ t ∈ us, KpF w t.ka t.kc t.ks
theorem KpFs.nil {w : World} : KpFs w [] := fun t ht => absurd ht (by simp)
section
variable {B : Base} {w : World} {h : List (Nat × Obj)} {F : World → Prop} {g : Nat}
theorem St.frozK (hS : St B h F w) (k : Nat) {C : Array Value} {e : TypeId} {fr : Nat × Nat} {ks : List KpA} {c c0 : Nat} {a0 : Option Addr} {us : List TmA} {t : TmA} (hA : kK.A C (ks.map KpA.nz) c) (hF1 : ∀ w, F w → KpF w a0 c0 ks) (hF2 : ∀ w, F w → KpFs w us) (ht : t.ka = some ⟨g, 0, none⟩ ∧ t.kc = c ∧ t.ks = ks.map KpA.nz) (ks' : List Nat) {h' : List (Nat × Obj)}
    (hk : h[k]? = some (g, .cells C e fr) := by kernel_rfl) (hh : selB ks' (h.eraseIdx k) = h' := by kernel_rfl) : St B h' (fun w => KpFs w (us ++ [t]) ∧ F w) w := by
  refine hS.froz k hk ks' hh (fun _ hg hn => ?_)
  have hsub : ∀ b, b ∈ h'.map (·.1) → b ∈ h.map (·.1) := fun b hb => ((((hh ▸ selB_sub ks' _ : List.Sublist h' (h.eraseIdx k)).trans (List.eraseIdx_sublist h k)).map _).subset hb)
  have hP : Pers (fun b => b ∈ h'.map (·.1)) F w := hS.facts.sub hsub
  have f0 := hF1 w hS.facts.now
  have q1 : Pers (fun b => b ∈ h'.map (·.1)) (fun w => KpFs w us) w := hP.mono hF2
  have q2 : Pers (fun b => b ∈ h'.map (·.1)) (fun w => KpF w (some ⟨g, 0, none⟩) c (ks.map KpA.nz)) w := by
    have hrow : Rs w (some ⟨g, 0, none⟩) (kpR (ks.map KpA.nz)) := by rw [← kK_r]; exact Rs.of_av hg hA
    refine KpF.mkP hA.le (by rw [List.length_map]; exact f0.max) (hrow.pers (fun p hp _ hx => by
      obtain rfl : (⟨g, 0, none⟩ : Addr) = p := by simpa using hp
      exact hn hx)) (fun p hp => ?_) (fun p hp => ?_)
    · obtain ⟨q, hq, rfl⟩ := List.mem_map.1 hp
      exact hP.mono (fun w hw => (hF1 w hw).sub q hq)
    · obtain ⟨q, hq, rfl⟩ := List.mem_map.1 hp
      exact KpA.nz_ok (f0.ok q hq)
  refine (q1.and q2).mono (fun w hw x hx => ?_)
  rcases List.mem_append.1 hx with hx | hx
  · exact hw.1 x hx
  · rw [List.mem_singleton.1 hx, ht.1, ht.2.1, ht.2.2]; exact hw.2
theorem St.frozT (hS : St B h F w) (k : Nat) {C : Array Value} {e : TypeId} {fr : Nat × Nat} {us : List TmA} {c : Nat} (hA : kT.A C us c) (hm : us.length ≤ 1000000) (hok : ∀ t ∈ us, t.Ok) (hF : ∀ w, F w → KpFs w us) (ks' : List Nat) {h' : List (Nat × Obj)}
    (hk : h[k]? = some (g, .cells C e fr) := by kernel_rfl) (hh : selB ks' (h.eraseIdx k) = h' := by kernel_rfl) : St B h' (fun w => TmF w (some ⟨g, 0, none⟩) c us ∧ F w) w := by
  refine hS.froz k hk ks' hh (fun _ hg hn => ?_)
  have hsub : ∀ b, b ∈ h'.map (·.1) → b ∈ h.map (·.1) := fun b hb => ((((hh ▸ selB_sub ks' _ : List.Sublist h' (h.eraseIdx k)).trans (List.eraseIdx_sublist h k)).map _).subset hb)
  have hrow : Rs w (some ⟨g, 0, none⟩) (tmR us) := by rw [← kT_r]; exact Rs.of_av hg hA
  refine TmF.mkP hA.le hm (hrow.pers (fun p hp _ hx => by
    obtain rfl : (⟨g, 0, none⟩ : Addr) = p := by simpa using hp
    exact hn hx)) (fun t ht => (hS.facts.sub hsub).mono (fun w hw => hF w hw t ht)) hok
theorem St.frozTN (hS : St B h F w) (ks : List Nat) {h' : List (Nat × Obj)} (hh : selB ks h = h' := by kernel_rfl) : St B h' (fun w => TmF w none 0 [] ∧ F w) w :=
  (hS.sub (hh ▸ selB_sub ks h : List.Sublist h' h)).weaken (fun _ hF => ⟨TmF.nil, hF⟩)
end
theorem bne_f {x y : Int} (h : x = y) : (x != y) = false := by rw [h]; exact bne_self_eq_false y
theorem beq_t {x y : Int} (h : x = y) : (x == y) = true := by rw [h]; exact beq_self_eq_true y
theorem okPure {P : Program} {Q : Exit → Act → World → Prop} {n : Nat} {l : List (Nat × Value)} {w0 : Base} {h : List (Nat × Obj)} {F : World → Prop} {c : Code} {p : Prop} (hp : ∀ w, F w → p) (hk : p → Ok P c Q n l w0 h F) : Ok P c Q n l w0 h F :=
  fun A w hf hs => hk (hp w hs.facts.now) A w hf hs
structure Cpy (ts us : List TmA) (i : Nat) : Prop where
  e : us.map TmA.er = (ts.take i).map TmA.neu
  ok : ∀ t ∈ us, t.Ok
  k2 : ∀ t ∈ us, t.kd = 2 → t.ks.length = 2
theorem Cpy.nil (ts : List TmA) : Cpy ts [] 0 := ⟨rfl, by simp, by simp⟩
theorem Cpy.len {ts us : List TmA} {i : Nat} (h : Cpy ts us i) : us.length ≤ i := by
  have := congrArg List.length h.e
  rw [List.length_map, List.length_map, List.length_take] at this
  omega
theorem Cpy.next {ts us : List TmA} {i : Nat} (h : Cpy ts us i) (hi : i < ts.length) (ho : TsOk ts) (hs : Soft ts) {a : Option Addr} {c : Nat} : Cpy ts (us ++ [⟨(gT ts i).kd, (gT ts i).m, (gT ts i).nu, (gT ts i).h, (gT ts i).ks.map KpA.nz, a, c⟩]) (i + 1) := by
  have hg := ho.gT i
  refine ⟨?_, fun t ht => ?_, fun t ht => ?_⟩
  · rw [List.map_append, h.e, List.take_add_one, List.getElem?_eq_getElem hi, List.map_append]
    congr 1
    show [TmA.er _] = [TmA.neu ts[i]]
    have e : gT ts i = ts[i] := by unfold gT; rw [List.getD_eq_getElem?_getD, List.getElem?_eq_getElem hi]; rfl
    unfold TmA.er TmA.neu
    rw [e, List.map_map]; rfl
  · rcases List.mem_append.1 ht with ht | ht
    · exact h.ok t ht
    · rw [List.mem_singleton.1 ht]; exact ⟨hg.kd, hg.m, hg.nu, hg.h⟩
  · rcases List.mem_append.1 ht with ht | ht
    · exact h.k2 t ht
    · rw [List.mem_singleton.1 ht]; show (gT ts i).kd = 2 → ((gT ts i).ks.map KpA.nz).length = 2; rw [List.length_map]; exact (hs _ (gT_mem hi)).2.1
theorem Cpy.done {ts us : List TmA} {i : Nat} (h : Cpy ts us i) (hi : ts.length ≤ i) : Neu ts us := by
  unfold Neu
  rw [h.e, List.take_of_length_le hi]
def hexD (n : Nat) : Nat := if n < 10 then 48 + n else 87 + n
def hx2 (x : Nat) : List UInt8 := [ob ((hexD (x / 16) : Nat) : Int), ob ((hexD (x % 16) : Nat) : Int)]
def hxS (B : List UInt8) : List UInt8 := B.flatMap fun x => hx2 x.toNat
theorem hxS_length (B : List UInt8) : (hxS B).length = 2 * B.length := by
  induction B with
  | nil => rfl
  | cons x B ih => rw [hxS, List.flatMap_cons, List.length_append, ← hxS, ih]; simp [hx2]; omega
theorem hx_len {B X : List UInt8} {i : Nat} (hi : i ≤ B.length) (hX : X = hxS (B.take i)) : X.length = 2 * i := by
  rw [hX, hxS_length, List.length_take]; omega
theorem hx_next {B X : List UInt8} {i : Nat} (h : i < B.length) (hX : X = hxS (B.take i)) : X ++ [ob ((hexD (gB B i / 16) : Nat) : Int), ob ((hexD (gB B i % 16) : Nat) : Int)] = hxS (B.take (i + 1)) := by
  rw [take_snoc h, hxS, List.flatMap_append, ← hxS, hX]
  rfl
theorem hx_end {B X : List UInt8} {i : Nat} (h : B.length ≤ i) (hX : X = hxS (B.take i)) : X = hxS B := by
  rw [hX, List.take_of_length_le h]
theorem gB_dig {j : Nat} (h : j < 16) : gB [48, 49, 50, 51, 52, 53, 54, 55, 56, 57, 97, 98, 99, 100, 101, 102] j = hexD j := by
  revert j
  decide
theorem hexD_lt {n : Nat} (h : n < 16) : hexD n < 256 := by unfold hexD; split <;> omega
theorem hexD_rng {n : Nat} (h : n < 16) : 0 ≤ ((hexD n : Nat) : Int) ∧ ((hexD n : Nat) : Int) < 256 := by have := hexD_lt h; omega
theorem and15 {x : Nat} (h : x < 256) : bits .and .u8 (x : Int) 15 = ((x % 16 : Nat) : Int) := by
  have := bits_andU (k := .u8) rfl (a := x) (b := 15) h (by decide)
  refine this.trans ?_
  rw [show (15 : Nat) = 2 ^ 4 - 1 from rfl, Nat.and_two_pow_sub_one_eq_mod]
def rowS (n : Nat) (pa : Nat → Option Addr) (pc : Nat → Nat) (pB : Nat → List UInt8) : Array Value := ((List.range n).map fun k => Value.slice (pa k) (pB k).length (pc k)).toArray
theorem rowS_get {n : Nat} {pa : Nat → Option Addr} {pc : Nat → Nat} {pB : Nat → List UInt8} {k : Nat} (h : k < n) : (rowS n pa pc pB)[k]? = some (.slice (pa k) (pB k).length (pc k)) := by
  simp [rowS, h]
def AllB (w : World) (n : Nat) (pa : Nat → Option Addr) (pc : Nat → Nat) (pB : Nat → List UInt8) : Prop := ∀ k, k < n → Bs w (pa k) (pc k) (pB k)
theorem AllB.pers0 {w : World} {n : Nat} {pa : Nat → Option Addr} {pc : Nat → Nat} {pB : Nat → List UInt8} (h : AllB w n pa pc pB) : Pers (fun _ => False) (fun w => AllB w n pa pc pB) w := by
  refine ⟨fun b => b < w.heap.size, fun b hb => ⟨hb, id⟩, fun w' hw k hk => ?_⟩
  obtain ⟨S, s1, s2⟩ := (h k hk).pers0
  exact s2 w' (fun b hb => hw b (s1 b hb).1)
theorem allB2 {w : World} {a0 a1 : Option Addr} {c0 c1 : Nat} {B0 B1 : List UInt8} (h0 : Bs w a0 c0 B0) (h1 : Bs w a1 c1 B1) : AllB w 2 (fun k => [a0, a1].getD k none) (fun k => [c0, c1].getD k 0) (fun k => [B0, B1].getD k []) := by
  intro k hk
  rcases (by omega : k = 0 ∨ k = 1) with rfl | rfl
  · exact h0
  · exact h1
theorem allB3 {w : World} {a0 a1 a2 : Option Addr} {c0 c1 c2 : Nat} {B0 B1 B2 : List UInt8} (h0 : Bs w a0 c0 B0) (h1 : Bs w a1 c1 B1) (h2 : Bs w a2 c2 B2) : AllB w 3 (fun k => [a0, a1, a2].getD k none) (fun k => [c0, c1, c2].getD k 0) (fun k => [B0, B1, B2].getD k []) := by
  intro k hk
  rcases (by omega : k = 0 ∨ k = 1 ∨ k = 2) with rfl | rfl | rfl
  · exact h0
  · exact h1
  · exact h2
def catB (pB : Nat → List UInt8) : Nat → List UInt8
  | 0 => []
  | k + 1 => catB pB k ++ pB k
theorem catB_le (pB : Nat → List UInt8) {i n : Nat} (h : i ≤ n) : (catB pB i).length ≤ (catB pB n).length := by
  induction n with
  | zero => rw [show i = 0 by omega]; exact Nat.le_refl _
  | succ n ih =>
    rcases (by omega : i ≤ n ∨ i = n + 1) with e | e
    · rw [catB, List.length_append]; have := ih e; omega
    · rw [e]; exact Nat.le_refl _
theorem catB_next (pB : Nat → List UInt8) {i n : Nat} (h : i < n) : (catB pB i).length + (pB i).length ≤ (catB pB n).length := by
  have := catB_le pB (i := i + 1) (n := n) h
  rw [catB, List.length_append] at this
  exact this
section
variable {P : Program} {t e : TypeId}
theorem idx_rowS (ht : P.underlying t = some (.slice e)) (hs : ∀ w, (sizeOf e).run P w = .ok 1 w) {g m c : Nat} {k : IntKind} {z : Int} {j : Nat} (hz : z = (j : Int)) (hj : j < m) (w : World) :
    (do pure (Next.value (← Instr.indexAt t (.slice (some ⟨g, 0, none⟩) m c) (.int k z))) : Sem Next).run P w = .ok (.value (.pointer (some ⟨g, j, none⟩))) w := by
  subst hz
  have := run_idx_slice (P := P) (t := t) (elem := e) (len := m) (cap := c) (s := 1) (g := g) (off := 0) (k := k) (n := j) ht hs (by omega) (by omega) w
  simpa using this
theorem idx_rowN (ht : P.underlying t = some (.slice e)) {sz : Nat} (hs : ∀ w, (sizeOf e).run P w = .ok sz w) {g m c : Nat} {k : IntKind} {z : Int} {j : Nat} (hz : z = (j : Int)) (hj : j < m) (w : World) :
    (do pure (Next.value (← Instr.indexAt t (.slice (some ⟨g, 0, none⟩) m c) (.int k z))) : Sem Next).run P w = .ok (.value (.pointer (some ⟨g, j * sz, none⟩))) w := by
  subst hz
  have := run_idx_slice (P := P) (t := t) (elem := e) (len := m) (cap := c) (s := sz) (g := g) (off := 0) (k := k) (n := j) ht hs (by omega) (by omega) w
  simpa using this
end
theorem pad_any (n : Nat) (hn : n ≤ 140737488351232) (w0 : World) : Calls Tryz.prog 88 #[(.int .u64 ((n : Nat) : Int))] w0 (fun ε w' => ∃ α κ, ε = .returned (.slice α (padN n).length κ) ∧ Below w0.heap.size w0 w' ∧ Fs w0 w' α κ (padN n)) := by
 refine Calls.of_ok (n := 33) (F := (fun _ => True)) Tryz.func88 rfl rfl rfl (by simp) (persTrue (fun _ => trivial)) ?_
 refine sS Tryz.f88 1 [0, 2] [] (fun _ => [(.slice none 0 0)]) (fun _ => []) (cR [[]] <| cN) (fun _ => ?_)
 refine sS Tryz.f88 6 [0, 2, 3] [] (fun _ => [(.int .u64 ((n : Nat) : Int)), (.int .u64 ((n + 9 : Nat) : Int)), (.int .u64 (((n + 9) % 64 : Nat) : Int)), (.int .u64 ((64 - ((n + 9) % 64) : Nat) : Int)), (.int .u64 ((zeros n : Nat) : Int)), (.int .u64 ((zeros n : Nat) : Int))]) (fun _ => []) (cR [[]] <| cA (v := fun ρ => (.int .u64 (IntKind.u64.wrap (((n : Nat) : Int) + 9)))) (fun _ => (.int .u64 ((n + 9 : Nat) : Int))) (fun _ => congrArg (Value.int .u64) (u64_addN n 9 (by have := hn; have := zeros_lt n; omega))) <| cB (a := fun ρ => (.int .u64 ((n + 9 : Nat) : Int))) (b := fun ρ => (.int .u64 64)) (v := fun ρ => (.int .u64 (((n + 9) % 64 : Nat) : Int))) .rem 37 (fun _ w => run_remU (k := .u64) (n := (n + 9)) (d := 64) (by decide) w) <| cA (v := fun ρ => (.int .u64 (IntKind.u64.wrap (64 - (((n + 9) % 64 : Nat) : Int))))) (fun _ => (.int .u64 ((64 - ((n + 9) % 64) : Nat) : Int))) (fun _ => congrArg (Value.int .u64) (u64_subN 64 ((n + 9) % 64) (by have := hn; have := zeros_lt n; omega) (by have := hn; have := zeros_lt n; omega))) <| cB (a := fun ρ => (.int .u64 ((64 - ((n + 9) % 64) : Nat) : Int))) (b := fun ρ => (.int .u64 64)) (v := fun ρ => (.int .u64 ((zeros n : Nat) : Int))) .rem 37 (fun _ w => run_remU (k := .u64) (n := 64 - (n + 9) % 64) (d := 64) (by decide) w) <| cR [[]] <| cN) (fun _ => ?_)
 refine sS Tryz.f88 6 [0, 2, 4] [] (fun ρ => [(.int .u64 ((zeros n : Nat) : Int)), (.int .u64 ((zeros n + 1 : Nat) : Int)), (.int .u64 ((zeros n : Nat) : Int)), (.int .u64 ((9 + (zeros n) : Nat) : Int)), (vs (nb ρ 4) (List.replicate (zeros n + 1) (0 : UInt8)).length (9 + (zeros n))), (vs (nb ρ 4) (List.replicate (zeros n + 1) (0 : UInt8)).length (9 + (zeros n)))]) (fun ρ => [(4, (nw ρ 4 (cL (zB (9 + (zeros n))) 5)))]) (cR [[]] <| cA (v := fun ρ => (.int .u64 (IntKind.u64.wrap (1 + ((zeros n : Nat) : Int))))) (fun _ => (.int .u64 ((zeros n + 1 : Nat) : Int))) (fun _ => congrArg (Value.int .u64) ((u64_addN 1 (zeros n) (by have := hn; have := zeros_lt n; omega)).trans (by omega))) <| cR [[]] <| cA (v := fun ρ => (.int .u64 (IntKind.u64.wrap (9 + ((zeros n : Nat) : Int))))) (fun _ => (.int .u64 ((9 + (zeros n) : Nat) : Int))) (fun _ => congrArg (Value.int .u64) (u64_addN 9 (zeros n) (by have := hn; have := zeros_lt n; omega))) <| cX (o_new1 _ (fun _ => do pure (Next.value (← Instr.makeSlice 33 (.int .u64 ((zeros n + 1 : Nat) : Int)) (.int .u64 ((9 + (zeros n) : Nat) : Int))))) (fun _ ζ => (vs (ζ.headD 0) (List.replicate (zeros n + 1) (0 : UInt8)).length (9 + (zeros n)))) (fun _ _ => (cL (zB (9 + (zeros n))) 5)) (fun _ _ => (by kernel_rfl)) (fun _ => (by kernel_rfl)) (fun _ _ => trivial) (fun _ _ w _ => make_rowL Tryz.underlying33 u8i (List.replicate (zeros n + 1) (0 : UInt8)) ((rfl).trans (by rw [List.length_replicate])) (rfl) (by have := hn; have := zeros_lt n; rw [List.length_replicate]; omega) (by have := hn; have := zeros_lt n; omega) w)) <| cR [[]] <| cN) (fun ρ3 => ?_)
 refine sS Tryz.f88 3 [0, 2, 4] [] (fun _ => [(vs (nb ρ3 4) (List.replicate (zeros n + 1) (0 : UInt8)).length (9 + (zeros n))), (.pointer (some ⟨nb ρ3 4, 0, none⟩)), undef]) (fun _ => [(2, (pwt 0 (nb ρ3 4) (cL ((zB (9 + zeros n)).setIfInBounds 0 (.int .u8 128)) 5)))]) (cR [[]] <| cX (qS (fun _ w => idx_row (g := nb ρ3 4) (c := 9 + (zeros n)) (k := .i64) Tryz.underlying33 u8i ((show 0 = ((0 : Nat) : Int) ∧ 0 < (List.replicate (zeros n + 1) (0 : UInt8)).length from ⟨rfl, (by have := hn; have := zeros_lt n; rw [List.length_replicate]; omega)⟩)).1 ((show 0 = ((0 : Nat) : Int) ∧ 0 < (List.replicate (zeros n + 1) (0 : UInt8)).length from ⟨rfl, (by have := hn; have := zeros_lt n; rw [List.length_replicate]; omega)⟩)).2 w)) <| cX (o_st _ 0 5 (fun _ => nb ρ3 4) (fun _ => 0) (fun _ => (zB (9 + (zeros n)))) (fun _ => ((zB (9 + zeros n)).setIfInBounds 0 (.int .u8 128))) 5 (fun _ => (.int .u8 128)) (fun _ => by kernel_rfl) Tryz.sizeOf5 (fun _ => rfl) (fun _ => (by rw [zB_size]; omega)) (fun _ => rfl)) <| cN) (fun _ => ?_)
 refine ok_seq ?_
 refine sS Tryz.f88 1 [0, 2, 4, 18] [] (fun _ => [(vi 0)]) (fun _ => []) (cR [[]] <| cN) (fun _ => ?_)
 refine ok_block ?_
 refine oL (σ := Nat × (List UInt8) × (Array Value)) (fun ⟨i, X, _⟩ => [(0, (.int .u64 ((n : Nat) : Int))), (2, (.slice none 0 0)), (4, (vs (nb ρ3 4) (X).length (9 + zeros n))), (18, (vn i))]) (fun ⟨_, _, C⟩ => [(nb ρ3 4, (cL C 5))]) (fun ⟨i, _, _⟩ => 8 - i)
   (fun ⟨i, X, C⟩ => (i ≤ 8) ∧ (X = 128 :: (List.replicate (zeros n) 0 ++ be8 (8 * n) i)) ∧ (Hd C X) ∧ (C.size = 9 + zeros n)) (0, 128 :: List.replicate (zeros n) (0 : UInt8), (zB (9 + zeros n)).setIfInBounds 0 (.int .u8 128)) (⟨by decide, by simp [be8], pad_hd0 n, by rw [Array.size_setIfInBounds, zB_size]⟩) [] ?_
 rintro ⟨i, X, C⟩ ⟨hi, hX, hC, hs⟩
 change Ok Tryz.prog _ _ 33 [(0, (.int .u64 ((n : Nat) : Int))), (2, (.slice none 0 0)), (4, (vs (nb ρ3 4) (X).length (9 + zeros n))), (18, (vn i))] _ [(nb ρ3 4, (cL C 5))] (fun _ => True)
 refine sS Tryz.f88 1 [0, 2, 4, 18, 19] [] (fun _ => [(.bool (decide (((i : Nat) : Int) < 8)))]) (fun _ => []) (cR [[]] <| cN) (fun _ => ?_)
 refine ok_seq ?_
 refine oC (decide (((i : Nat) : Int) < 8)) (fun hb1 => ?_) (fun hb1 => ?_)
 ·
  rw [hb1]
  refine ok_skip ?_
  refine mt_then ?_
  refine ok_seq ?_
  refine ok_block ?_
  refine sS Tryz.f88 2 [0, 2, 4, 5, 18] [] (fun _ => [(vn i), (vn i)]) (fun _ => []) (cR [[], []] <| cN) (fun _ => ?_)
  refine rS Tryz.f88 11 [0, 2, 4, 18] [1, 0] (fun ρ => [(vs (nb ρ3 4) (X).length (9 + zeros n)), (.int .u64 ((n : Nat) : Int)), (.int .u64 ((8 * n : Nat) : Int)), (vn i), (vn (8 * i)), (vn (56 - 8 * i)), (.int .u64 ((8 * n / 2 ^ (56 - 8 * i) : Nat) : Int)), (.int .u8 ((8 * n / 2 ^ (56 - 8 * i) % 256 : Nat) : Int)), (vs (nb ρ 8) (([ob ((8 * n / 2 ^ (56 - 8 * i) % 256 : Nat) : Int)] : List UInt8)).length 1), (vs (nb ρ3 4) (X ++ ([ob ((8 * n / 2 ^ (56 - 8 * i) % 256 : Nat) : Int)] : List UInt8)).length (9 + zeros n)), (vs (nb ρ3 4) (X ++ ([ob ((8 * n / 2 ^ (56 - 8 * i) % 256 : Nat) : Int)] : List UInt8)).length (9 + zeros n))]) (fun ρ => [(8, (nw ρ 8 (cL #[(.int .u8 ((8 * n / 2 ^ (56 - 8 * i) % 256 : Nat) : Int))] 5))), (9, (pwt 0 (nb ρ3 4) (cL (inpl C (X).length (bs ([ob ((8 * n / 2 ^ (56 - 8 * i) % 256 : Nat) : Int)] : List UInt8))) 5)))]) (cR [[], []] <| cA (v := fun ρ => (.int .u64 (IntKind.u64.wrap (8 * ((n : Nat) : Int))))) (fun _ => (.int .u64 ((8 * n : Nat) : Int))) (fun _ => congrArg (Value.int .u64) (u64_mulN 8 n (by have := yT hb1; have := hn; have := zeros_lt n; have := hi; have := pad_len hX; omega))) <| cR [[]] <| cA (v := fun ρ => (vi (IntKind.i64.wrap (8 * ((i : Nat) : Int))))) (fun _ => (vn (8 * i))) (fun _ => congrArg (Value.int .i64) (wrap_mulN 8 i (by have := yT hb1; have := hn; have := zeros_lt n; have := hi; have := pad_len hX; omega))) <| cA (v := fun ρ => (vi (IntKind.i64.wrap (56 - ((8 * i : Nat) : Int))))) (fun _ => (vn (56 - 8 * i))) (fun _ => congrArg (Value.int .i64) ((i64N (by have := yT hb1; have := hn; have := zeros_lt n; have := hi; have := pad_len hX; omega)).trans (by have := yT hb1; have := hn; have := zeros_lt n; have := hi; have := pad_len hX; omega))) <| cB (a := fun ρ => (.int .u64 ((8 * n : Nat) : Int))) (b := fun ρ => (vn (56 - 8 * i))) (v := fun ρ => (.int .u64 ((8 * n / 2 ^ (56 - 8 * i) : Nat) : Int))) .shr 37 (fun _ w => run_shrU (k := .u64) (x := 8 * n) (c := 56 - 8 * i) (by have := yT hb1; have := hn; have := zeros_lt n; have := hi; have := pad_len hX; show 8 * n < 18446744073709551616; omega) w) <| cA (fun _ => (.int .u8 ((8 * n / 2 ^ (56 - 8 * i) % 256 : Nat) : Int))) (fun _ => congrArg (Value.int .u8) (u8M (8 * n / 2 ^ (56 - 8 * i)))) <| cR [[]] <| cX (o_put1 _ 0 (fun ρ => do pure (Next.value (← Builtin.append_ #[33, 33] 33 #[(vs (nb ρ3 4) (X).length (9 + zeros n)), (vs (nb ρ 8) (([ob ((8 * n / 2 ^ (56 - 8 * i) % 256 : Nat) : Int)] : List UInt8)).length 1)]))) (fun _ => nb ρ3 4) (fun _ => (cL C 5)) (fun _ => (cL (inpl C (X).length (bs ([ob ((8 * n / 2 ^ (56 - 8 * i) % 256 : Nat) : Int)] : List UInt8))) 5)) (fun _ => (vs (nb ρ3 4) (X ++ ([ob ((8 * n / 2 ^ (56 - 8 * i) % 256 : Nat) : Int)] : List UInt8)).length (9 + zeros n))) (fun _ => (by kernel_rfl)) (fun _ => (by kernel_rfl)) (fun _ => (by kernel_rfl)) (fun _ => (by kernel_rfl)) (fun _ _ => trivial) (fun ρ _ _ hG hg => app_roomL Tryz.underlying33 u8i hg (Bs.src (tx := 33) Tryz.underlying33 (Bs.of_hd (hG.kn (g := nb ρ 8) (o := (cL #[(.int .u8 ((8 * n / 2 ^ (56 - 8 * i) % 256 : Nat) : Int))] 5)) 65) (hd1 ((by omega))) (Nat.le_refl 1) (Nat.le_of_ble_eq_true rfl))) hs ((by have := yT hb1; have := hn; have := zeros_lt n; have := hi; have := pad_len hX; simp only [List.length_cons, List.length_nil]; omega)))) <| cR [[]] <| cN) (fun _ => ?_)
  refine mt_block_n ?_
  refine mt_then ?_
  refine rS Tryz.f88 2 [0, 2, 4, 18] [] (fun _ => [(vn (i + 1)), (vn (i + 1))]) (fun _ => []) (cA (v := fun ρ => (vi (IntKind.i64.wrap (((i : Nat) : Int) + 1)))) (fun _ => (vn (i + 1))) (fun _ => congrArg (Value.int .i64) (wrap_addN i 1 (by have := yT hb1; have := hn; have := zeros_lt n; have := hi; have := pad_len hX; omega))) <| cR [[]] <| cN) (fun _ => ?_)
  exact mN (i + 1, X ++ ([ob ((8 * n / 2 ^ (56 - 8 * i) % 256 : Nat) : Int)] : List UInt8), inpl C (X).length (bs ([ob ((8 * n / 2 ^ (56 - 8 * i) % 256 : Nat) : Int)] : List UInt8))) (by show 8 - (i + 1) < 8 - i; have := yT hb1; have := hn; have := zeros_lt n; have := hi; have := pad_len hX; omega) (⟨(by have := yT hb1; have := hn; have := zeros_lt n; have := hi; have := pad_len hX; omega), pad_next hX, (Hd.inpl hC rfl), ((inpl_size _ _ _ (room_le hs ((by have := yT hb1; have := hn; have := zeros_lt n; have := hi; have := pad_len hX; simp only [List.length_cons, List.length_nil]; omega)))).trans hs)⟩) []
 ·
  rw [hb1]
  refine ok_exit ?_
  refine mt_then_e ?_
  refine mt_then_e ?_
  refine mt_block_h ?_
  refine mt_then ?_
  refine sS Tryz.f88 2 [2] [] (fun _ => [(vs (nb ρ3 4) (X).length (9 + zeros n)), (vs (nb ρ3 4) (X).length (9 + zeros n))]) (fun _ => []) (cR [[], []] <| cN) (fun _ => ?_)
  refine ok_ret ?_
  refine mD [(2, (vs (nb ρ3 4) (X).length (9 + zeros n)))] [(nb ρ3 4, (cL C 5))] ?_
  exact mR (v := (vs (nb ρ3 4) (X).length (9 + zeros n))) (fun _ hS => ⟨(some ⟨nb ρ3 4, 0, none⟩), 9 + zeros n, congrArg Ending.returned (by rw [(pad_end hX (by have := yF hb1; have := hn; have := zeros_lt n; have := hi; have := pad_len hX; omega))]), hS.bel, fs_eq ((pad_end hX (by have := yF hb1; have := hn; have := zeros_lt n; have := hi; have := pad_len hX; omega))) (hS.fresh (.head _) hC (by have := hn; have := zeros_lt n; have := hi; have := pad_len hX; omega) (by have := hn; have := zeros_lt n; have := hi; have := pad_len hX; omega))⟩)
theorem shrow_any (g : Nat) (n : Nat) (pa : Nat → Option Addr) (pc : Nat → Nat) (pB : Nat → List UInt8) (hn : n ≤ 16) (hl : (catB pB n).length ≤ 140737488351232) (h0 : 0 < (pB 0).length) (w0 : World) (hf0 : Kb w0 g (rowS n pa pc pB)) (hf1 : AllB w0 n pa pc pB) : Calls Tryz.prog 55 #[(vs g n n)] w0 (fun ε w' => ∃ α κ, ε = .returned (.slice α (catB pB n).length κ) ∧ Below w0.heap.size w0 w' ∧ Fs w0 w' α κ (catB pB n)) := by
 refine Calls.of_ok (n := 17) (F := (fun w => Kb w g (rowS n pa pc pB) ∧ AllB w n pa pc pB ∧ True)) Tryz.func55 rfl rfl rfl (by simp) (hf0.pers0.and (hf1.pers0.and persT)) ?_
 refine sS Tryz.f55 1 [0, 2] [] (fun _ => [(.slice none 0 0)]) (fun _ => []) (cR [[]] <| cN) (fun _ => ?_)
 refine sS Tryz.f55 1 [0, 2, 3] [] (fun _ => [(.slice none 0 0)]) (fun _ => []) (cR [[]] <| cN) (fun _ => ?_)
 refine ok_seq ?_
 refine sS Tryz.f55 3 [2, 3, 6, 7, 8] [] (fun _ => [(vs g n n), (vn n), (vi 0)]) (fun _ => []) (cR [[], [], []] <| cN) (fun _ => ?_)
 refine ok_block ?_
 refine oL (σ := (Nat) ⊕ (Nat × Nat × (List UInt8) × (Array Value) × Nat)) (fun s => match s with | Sum.inl i => [(2, (.slice none 0 0)), (3, (.slice none 0 0)), (6, (vs g n n)), (7, (vn n)), (8, (vn i))] | Sum.inr ⟨i, q, X, _, κ⟩ => [(2, (.slice none 0 0)), (3, (vs q (X).length κ)), (6, (vs g n n)), (7, (vn n)), (8, (vn i))]) (fun s => match s with | Sum.inl _ => [] | Sum.inr ⟨_, q, _, C, _⟩ => [(q, (cL C 5))]) (fun s => match s with | Sum.inl i => n - i | Sum.inr ⟨i, _, _, _, _⟩ => n - i)
   (fun s => match s with | Sum.inl i => (i ≤ n) ∧ (i = 0) | Sum.inr ⟨i, _, X, C, κ⟩ => (i ≤ n) ∧ (X = catB pB i) ∧ (Hd C X) ∧ (C.size = κ) ∧ (X.length ≤ κ)) (Sum.inl 0) (⟨Nat.zero_le _, rfl⟩) [] ?_
 rintro (i | ⟨i, q, X, C, κ⟩)
 ·
  rintro ⟨hi, h0i⟩
  change Ok Tryz.prog _ _ 17 [(2, (.slice none 0 0)), (3, (.slice none 0 0)), (6, (vs g n n)), (7, (vn n)), (8, (vn i))] _ [] (fun w => Kb w g (rowS n pa pc pB) ∧ AllB w n pa pc pB ∧ True)
  refine sS Tryz.f55 1 [2, 3, 6, 7, 8, 9] [] (fun _ => [(.bool (decide (((i : Nat) : Int) < ((n : Nat) : Int))))]) (fun _ => []) (cR [[]] <| cN) (fun _ => ?_)
  refine ok_seq ?_
  refine oC (decide (((i : Nat) : Int) < ((n : Nat) : Int))) (fun hb1 => ?_) (fun hb1 => ?_)
  ·
   rw [hb1]
   refine ok_skip ?_
   refine mt_then ?_
   refine ok_seq ?_
   refine ok_block ?_
   refine sS Tryz.f55 3 [2, 3, 5, 6, 7, 8] [] (fun _ => [(.pointer (some ⟨g, i, none⟩)), (.slice (pa i) (pB i).length (pc i)), (.slice (pa i) (pB i).length (pc i))]) (fun _ => []) (cX (qS (fun _ w => idx_rowS (g := g) (c := n) (k := .i64) Tryz.underlying107 Tryz.sizeOf33 ((show ((i : Nat) : Int) = ((i : Nat) : Int) ∧ i < n from ⟨rfl, (by have := yT hb1; have := hl; have := hn; have := hi; have := h0i; omega)⟩)).1 ((show ((i : Nat) : Int) = ((i : Nat) : Int) ∧ i < n from ⟨rfl, (by have := yT hb1; have := hl; have := hn; have := hi; have := h0i; omega)⟩)).2 w)) <| cX (qF (v := fun ρ => (.slice (pa i) (pB i).length (pc i))) (fun _ _ _ hG => ld_blk (off := i) Tryz.isAgg33 (hG.facts0.now.1) (rowS_get (by have := yT hb1; have := hl; have := hn; have := hi; have := h0i; omega)))) <| cR [[]] <| cN) (fun _ => ?_)
   refine rS Tryz.f55 4 [2, 3, 6, 7, 8] [] (fun ρ => [(.slice none 0 0), (.slice (pa i) (pB i).length (pc i)), (vs (nb ρ 2) (pB i).length ((pB i).length + nb2 ρ 2)), (vs (nb ρ 2) (pB i).length ((pB i).length + nb2 ρ 2))]) (fun ρ => [(2, (nw ρ 2 (cL ((bs (pB i)).toArray ++ zB (nb2 ρ 2)) 5)))]) (cR [[], []] <| cX (qN (fun _ ζ => (vs (ζ.headD 0) (pB i).length ((pB i).length + ζ.tail.headD 0))) (fun _ ζ => (cL ((bs (pB i)).toArray ++ zB (ζ.tail.headD 0)) 5)) (fun _ _ _ hG => app_nilL (ty := 33) Tryz.underlying33 u8i (Bs.src (tx := 33) Tryz.underlying33 (hG.facts0.now.2.1 i (by have := yT hb1; have := hl; have := hn; have := hi; have := h0i; omega))) ((by rw [h0i]; exact h0)) ((by have h1 := (catB_next pB (show i < n by have := yT hb1; have := hl; have := hn; have := hi; have := h0i; omega)); have := hl; omega)))) <| cR [[]] <| cN) (fun ρ6 => ?_)
   refine mt_block_n ?_
   refine mt_then ?_
   refine rS Tryz.f55 2 [2, 3, 6, 7, 8] [] (fun _ => [(vn (i + 1)), (vn (i + 1))]) (fun _ => []) (cA (v := fun ρ => (vi (IntKind.i64.wrap (((i : Nat) : Int) + 1)))) (fun _ => (vn (i + 1))) (fun _ => congrArg (Value.int .i64) (wrap_addN i 1 (by have := yT hb1; have := hl; have := hn; have := hi; have := h0i; omega))) <| cR [[]] <| cN) (fun _ => ?_)
   exact mN (Sum.inr (i + 1, nb ρ6 2, pB i, (bs (pB i)).toArray ++ zB (nb2 ρ6 2), (pB i).length + nb2 ρ6 2)) (by show n - (i + 1) < n - i; have := yT hb1; have := hl; have := hn; have := hi; have := h0i; omega) (⟨(by have := yT hb1; have := hl; have := hn; have := hi; have := h0i; omega), (by rw [h0i]; rfl), (Hd.fresh _ _), (fresh_size _ _), (Nat.le_add_right _ _)⟩) []
  ·
   rw [hb1]
   refine ok_exit ?_
   refine mt_then_e ?_
   refine mt_then_e ?_
   refine mt_block_h ?_
   refine mt_then ?_
   refine sS Tryz.f55 2 [2] [] (fun _ => [(.slice none 0 0), (.slice none 0 0)]) (fun _ => []) (cR [[], []] <| cN) (fun _ => ?_)
   refine ok_ret ?_
   refine mD [(2, (.slice none 0 0))] [] ?_
   exact mR (v := (.slice none 0 0)) (fun _ hS => ⟨none, 0, congrArg Ending.returned (by rw [← (show ([] : List UInt8) = catB pB n by rw [show n = 0 by have := yF hb1; have := hl; have := hn; have := hi; have := h0i; omega]; rfl)]; rfl), hS.bel, fs_eq ((show ([] : List UInt8) = catB pB n by rw [show n = 0 by have := yF hb1; have := hl; have := hn; have := hi; have := h0i; omega]; rfl)) Fs.nil⟩)
 ·
  rintro ⟨hi, hX, hC, hs, hle⟩
  change Ok Tryz.prog _ _ 17 [(2, (.slice none 0 0)), (3, (vs q (X).length κ)), (6, (vs g n n)), (7, (vn n)), (8, (vn i))] _ [(q, (cL C 5))] (fun w => Kb w g (rowS n pa pc pB) ∧ AllB w n pa pc pB ∧ True)
  refine sS Tryz.f55 1 [2, 3, 6, 7, 8, 9] [] (fun _ => [(.bool (decide (((i : Nat) : Int) < ((n : Nat) : Int))))]) (fun _ => []) (cR [[]] <| cN) (fun _ => ?_)
  refine ok_seq ?_
  refine oC (decide (((i : Nat) : Int) < ((n : Nat) : Int))) (fun hb2 => ?_) (fun hb2 => ?_)
  ·
   rw [hb2]
   refine ok_skip ?_
   refine mt_then ?_
   refine ok_seq ?_
   refine ok_block ?_
   refine sS Tryz.f55 3 [2, 3, 5, 6, 7, 8] [] (fun _ => [(.pointer (some ⟨g, i, none⟩)), (.slice (pa i) (pB i).length (pc i)), (.slice (pa i) (pB i).length (pc i))]) (fun _ => []) (cX (qS (fun _ w => idx_rowS (g := g) (c := n) (k := .i64) Tryz.underlying107 Tryz.sizeOf33 ((show ((i : Nat) : Int) = ((i : Nat) : Int) ∧ i < n from ⟨rfl, (by have := yT hb2; have := hl; have := hn; have := hi; omega)⟩)).1 ((show ((i : Nat) : Int) = ((i : Nat) : Int) ∧ i < n from ⟨rfl, (by have := yT hb2; have := hl; have := hn; have := hi; omega)⟩)).2 w)) <| cX (qF (v := fun ρ => (.slice (pa i) (pB i).length (pc i))) (fun _ _ _ hG => ld_blk (off := i) Tryz.isAgg33 (hG.facts0.now.1) (rowS_get (by have := yT hb2; have := hl; have := hn; have := hi; omega)))) <| cR [[]] <| cN) (fun _ => ?_)
   rcases Bool.eq_false_or_eq_true (decide ((X).length + (pB i).length ≤ κ)) with hb3 | hb3
   ·
    refine rS Tryz.f55 4 [2, 3, 6, 7, 8] [] (fun _ => [(vs q (X).length κ), (.slice (pa i) (pB i).length (pc i)), (vs q (X ++ (pB i)).length κ), (vs q (X ++ (pB i)).length κ)]) (fun _ => [(2, (pwt 0 q (cL (inpl C (X).length (bs (pB i))) 5)))]) (cR [[], []] <| cX (o_put1 _ 0 (fun _ => do pure (Next.value (← Builtin.append_ #[33, 33] 33 #[(vs q (X).length κ), (.slice (pa i) (pB i).length (pc i))]))) (fun _ => q) (fun _ => (cL C 5)) (fun _ => (cL (inpl C (X).length (bs (pB i))) 5)) (fun _ => (vs q (X ++ (pB i)).length κ)) (fun _ => (by kernel_rfl)) (fun _ => (by kernel_rfl)) (fun _ => (by kernel_rfl)) (fun _ => (by kernel_rfl)) (fun _ _ => trivial) (fun _ _ _ hG hg => app_roomL Tryz.underlying33 u8i hg (Bs.src (tx := 33) Tryz.underlying33 (hG.facts0.now.2.1 i (by have := yT hb2; have := yT hb3; have := hl; have := hn; have := hi; omega))) hs (yT hb3))) <| cR [[]] <| cN) (fun _ => ?_)
    refine mt_block_n ?_
    refine mt_then ?_
    refine rS Tryz.f55 2 [2, 3, 6, 7, 8] [] (fun _ => [(vn (i + 1)), (vn (i + 1))]) (fun _ => []) (cA (v := fun ρ => (vi (IntKind.i64.wrap (((i : Nat) : Int) + 1)))) (fun _ => (vn (i + 1))) (fun _ => congrArg (Value.int .i64) (wrap_addN i 1 (by have := yT hb2; have := yT hb3; have := hl; have := hn; have := hi; omega))) <| cR [[]] <| cN) (fun _ => ?_)
    exact mN (Sum.inr (i + 1, q, X ++ (pB i), inpl C (X).length (bs (pB i)), κ)) (by show n - (i + 1) < n - i; have := yT hb2; have := yT hb3; have := hl; have := hn; have := hi; omega) (⟨(by have := yT hb2; have := yT hb3; have := hl; have := hn; have := hi; omega), (by rw [hX]; rfl), (Hd.inpl hC rfl), ((inpl_size _ _ _ (room_le hs (yT hb3))).trans hs), (len_app (yT hb3))⟩) []
   ·
    refine rS Tryz.f55 4 [2, 3, 6, 7, 8] [0, 1] (fun ρ => [(vs q (X).length κ), (.slice (pa i) (pB i).length (pc i)), (vs (nb ρ 2) (X ++ (pB i)).length ((X ++ (pB i)).length + nb2 ρ 2)), (vs (nb ρ 2) (X ++ (pB i)).length ((X ++ (pB i)).length + nb2 ρ 2))]) (fun ρ => [(2, (nw ρ 2 (cL (grow C (X).length (bs (pB i)) (nb2 ρ 2)) 5)))]) (cR [[], []] <| cX (qN (fun _ ζ => (vs (ζ.headD 0) (X ++ (pB i)).length ((X ++ (pB i)).length + ζ.tail.headD 0))) (fun _ ζ => (cL (grow C (X).length (bs (pB i)) (ζ.tail.headD 0)) 5)) (fun _ _ _ hG => app_growL (ty := 33) Tryz.underlying33 u8i (hG.kn (g := q) (o := (cL C 5)) 0) (Bs.src (tx := 33) Tryz.underlying33 (hG.facts0.now.2.1 i (by have := yT hb2; have := yF hb3; have := hl; have := hn; have := hi; omega))) hs hle (Nat.lt_of_not_le (yF hb3)) ((by have h1 := (catB_next pB (show i < n by have := yT hb2; have := yF hb3; have := hl; have := hn; have := hi; omega)); rw [← hX] at h1; exact Nat.le_trans h1 hl)))) <| cR [[]] <| cN) (fun ρ13 => ?_)
    refine mt_block_n ?_
    refine mt_then ?_
    refine rS Tryz.f55 2 [2, 3, 6, 7, 8] [] (fun _ => [(vn (i + 1)), (vn (i + 1))]) (fun _ => []) (cA (v := fun ρ => (vi (IntKind.i64.wrap (((i : Nat) : Int) + 1)))) (fun _ => (vn (i + 1))) (fun _ => congrArg (Value.int .i64) (wrap_addN i 1 (by have := yT hb2; have := yF hb3; have := hl; have := hn; have := hi; omega))) <| cR [[]] <| cN) (fun _ => ?_)
    exact mN (Sum.inr (i + 1, nb ρ13 2, X ++ (pB i), grow C (X).length (bs (pB i)) (nb2 ρ13 2), (X ++ (pB i)).length + nb2 ρ13 2)) (by show n - (i + 1) < n - i; have := yT hb2; have := yF hb3; have := hl; have := hn; have := hi; omega) (⟨(by have := yT hb2; have := yF hb3; have := hl; have := hn; have := hi; omega), (by rw [hX]; rfl), (Hd.grow hC rfl), (grow_sizeL hC), (Nat.le_add_right _ _)⟩) []
  ·
   rw [hb2]
   refine ok_exit ?_
   refine mt_then_e ?_
   refine mt_then_e ?_
   refine mt_block_h ?_
   refine mt_then ?_
   refine sS Tryz.f55 2 [2] [] (fun _ => [(vs q (X).length κ), (vs q (X).length κ)]) (fun _ => []) (cR [[], []] <| cN) (fun _ => ?_)
   refine ok_ret ?_
   refine mD [(2, (vs q (X).length κ))] [(q, (cL C 5))] ?_
   exact mR (v := (vs q (X).length κ)) (fun _ hS => ⟨(some ⟨q, 0, none⟩), κ, congrArg Ending.returned (by rw [← (show X = catB pB n from hX.trans (by rw [show i = n by have := yF hb2; have := hl; have := hn; have := hi; omega]))]), hS.bel, fs_eq ((show X = catB pB n from hX.trans (by rw [show i = n by have := yF hb2; have := hl; have := hn; have := hi; omega]))) (hS.fresh (.head _) hC hle (by rw [hX]; exact Nat.le_trans (catB_le pB hi) hl))⟩)
theorem shrow2_any (g : Nat) (a0 : Option Addr) (c0 : Nat) (B0 : List UInt8) (a1 : Option Addr) (c1 : Nat) (B1 : List UInt8) (hl : B0.length + B1.length ≤ 140737488351232) (h0 : 0 < B0.length) (w0 : World) (hf0 : Kb w0 g #[.slice a0 B0.length c0, .slice a1 B1.length c1]) (hf1 : Bs w0 a0 c0 B0) (hf2 : Bs w0 a1 c1 B1) : Calls Tryz.prog 55 #[.slice (some ⟨g, 0, none⟩) 2 2] w0 (fun ε w' => ∃ α κ, ε = .returned (.slice α (B0 ++ B1).length κ) ∧ Below w0.heap.size w0 w' ∧ Fs w0 w' α κ (B0 ++ B1)) := shrow_any g 2 (fun k => [a0, a1].getD k none) (fun k => [c0, c1].getD k 0) (fun k => [B0, B1].getD k []) (by decide) (by show (([] ++ B0) ++ B1).length ≤ _; simp only [List.length_append, List.length_nil]; omega) h0 w0 hf0 (allB2 hf1 hf2)
theorem shrow3_any (g : Nat) (a0 : Option Addr) (c0 : Nat) (B0 : List UInt8) (a1 : Option Addr) (c1 : Nat) (B1 : List UInt8) (a2 : Option Addr) (c2 : Nat) (B2 : List UInt8) (hl : B0.length + B1.length + B2.length ≤ 140737488351232) (h0 : 0 < B0.length) (w0 : World) (hf0 : Kb w0 g #[.slice a0 B0.length c0, .slice a1 B1.length c1, .slice a2 B2.length c2]) (hf1 : Bs w0 a0 c0 B0) (hf2 : Bs w0 a1 c1 B1) (hf3 : Bs w0 a2 c2 B2) : Calls Tryz.prog 55 #[.slice (some ⟨g, 0, none⟩) 3 3] w0 (fun ε w' => ∃ α κ, ε = .returned (.slice α ((B0 ++ B1) ++ B2).length κ) ∧ Below w0.heap.size w0 w' ∧ Fs w0 w' α κ ((B0 ++ B1) ++ B2)) := shrow_any g 3 (fun k => [a0, a1, a2].getD k none) (fun k => [c0, c1, c2].getD k 0) (fun k => [B0, B1, B2].getD k []) (by decide) (by show ((([] ++ B0) ++ B1) ++ B2).length ≤ _; simp only [List.length_append, List.length_nil]; omega) h0 w0 hf0 (allB3 hf1 hf2 hf3)
theorem rotl_any (x : Nat) (n : Nat) (hx : x < 4294967296) (hn : 0 < n ∧ n < 32) (w0 : World) : Calls Tryz.prog 141 #[(.int .u32 ((x : Nat) : Int)), (vi (0 - ((n : Nat) : Int)))] w0 (fun ε w' => ε = .returned (.int .u32 ((rot32 x n : Nat) : Int)) ∧ Below w0.heap.size w0 w') := by
 refine Calls.of_ok (n := 17) (F := (fun _ => True)) Tryz.func141 rfl rfl rfl (by simp) (persTrue (fun _ => trivial)) ?_
 refine sS Tryz.f141 1 [0, 1, 4] [] (fun _ => [(.int .u32 0)]) (fun _ => []) (cR [[]] <| cN) (fun _ => ?_)
 refine sS Tryz.f141 4 [0, 4, 5] [] (fun _ => [(vi (0 - ((n : Nat) : Int))), (.int .u64 ((18446744073709551616 - n : Nat) : Int)), (.int .u64 ((32 - n : Nat) : Int)), (.int .u64 ((32 - n : Nat) : Int))]) (fun _ => []) (cR [[]] <| cA (fun _ => (.int .u64 ((18446744073709551616 - n : Nat) : Int))) (fun _ => congrArg (Value.int .u64) (u64_neg hn.1 hn.2)) <| cA (fun _ => (.int .u64 ((32 - n : Nat) : Int))) (fun _ => congrArg (Value.int .u64) (and31 hn.1 hn.2)) <| cR [[]] <| cN) (fun _ => ?_)
 refine sS Tryz.f141 9 [4] [] (fun _ => [(.int .u32 ((x : Nat) : Int)), (.int .u64 ((32 - n : Nat) : Int)), (.int .u32 ((x * 2 ^ (32 - n) % 4294967296 : Nat) : Int)), (.int .u32 ((x : Nat) : Int)), (.int .u64 ((32 - n : Nat) : Int)), (.int .u64 ((n : Nat) : Int)), (.int .u32 ((x / 2 ^ n : Nat) : Int)), (.int .u32 ((rot32 x n : Nat) : Int)), (.int .u32 ((rot32 x n : Nat) : Int))]) (fun _ => []) (cR [[], []] <| cB (a := fun ρ => (.int .u32 ((x : Nat) : Int))) (b := fun ρ => (.int .u64 ((32 - n : Nat) : Int))) (v := fun ρ => (.int .u32 ((x * 2 ^ (32 - n) % 4294967296 : Nat) : Int))) .shl 41 (fun _ w => run_shlM (by omega) w) <| cR [[], []] <| cA (fun _ => (.int .u64 ((n : Nat) : Int))) (fun _ => congrArg (Value.int .u64) (u64_32 hn.1 hn.2)) <| cB (a := fun ρ => (.int .u32 ((x : Nat) : Int))) (b := fun ρ => (.int .u64 ((n : Nat) : Int))) (v := fun ρ => (.int .u32 ((x / 2 ^ n : Nat) : Int))) .shr 41 (fun _ w => run_shrU (k := .u32) hx w) <| cA (fun _ => (.int .u32 ((rot32 x n : Nat) : Int))) (fun _ => congrArg (Value.int .u32) (or_rot hx)) <| cR [[]] <| cN) (fun _ => ?_)
 refine ok_ret ?_
 exact mR (v := (.int .u32 ((rot32 x n : Nat) : Int))) (fun _ hS => ⟨rfl, hS.bel⟩)
theorem rotr_any (x : Nat) (n : Nat) (hx : x < 4294967296) (hn : 0 < n ∧ n < 32) (w0 : World) : Calls Tryz.prog 116 #[(.int .u32 ((x : Nat) : Int)), (vn n)] w0 (fun ε w' => ε = .returned (.int .u32 ((rot32 x n : Nat) : Int)) ∧ Below w0.heap.size w0 w') := by
 refine Calls.of_ok (n := 9) (F := (fun _ => True)) Tryz.func116 rfl rfl rfl (by simp) (persTrue (fun _ => trivial)) ?_
 refine sS Tryz.f116 1 [0, 1, 4] [] (fun _ => [(.int .u32 0)]) (fun _ => []) (cR [[]] <| cN) (fun _ => ?_)
 refine sS Tryz.f116 5 [4] [] (fun _ => [(.int .u32 ((x : Nat) : Int)), (vn n), (vi (0 - ((n : Nat) : Int))), (.int .u32 ((rot32 x n : Nat) : Int)), (.int .u32 ((rot32 x n : Nat) : Int))]) (fun _ => []) (cR [[], []] <| cA (v := fun ρ => (vi (IntKind.i64.wrap (0 - ((n : Nat) : Int))))) (fun _ => (vi (0 - ((n : Nat) : Int)))) (fun _ => congrArg (Value.int .i64) (i64N (by have := hn; omega))) <| cC (fun _ w => rotl_any x n hx hn w) <| cR [[]] <| cN) (fun _ => ?_)
 refine ok_ret ?_
 exact mR (v := (.int .u32 ((rot32 x n : Nat) : Int))) (fun _ hS => ⟨rfl, hS.bel⟩)
theorem zrow_sc (X : List UInt8) : rowK .u32 64 (fun _ => 0) = rowK .u32 64 (sc X 0 0) := rowK_congr fun m _ => (sc_zero X m).symm
theorem sched_any (X : List UInt8) (hX : X.length = 64) (w0 : World) : Calls Tryz.prog 115 #[(.agg ((bs X).toArray))] w0 (fun ε w' => ε = .returned (.agg (rowK .u32 64 (wN X))) ∧ Below w0.heap.size w0 w') := by
 refine Calls.of_ok (n := 85) (F := (fun _ => True)) Tryz.func115 rfl rfl rfl (by simp) (persTrue (fun _ => trivial)) ?_
 refine sS Tryz.f115 2 [1, 2] [] (fun ρ => [(pt (nb ρ 0)), (pt (nb ρ 1))]) (fun ρ => [(0, (nw ρ 0 (cL ((bs X).toArray) 106))), (1, (nw ρ 1 (cL (rowK .u32 64 (fun _ => 0)) 115)))]) (cR [[], []] <| cN) (fun ρ1 => ?_)
 refine sS Tryz.f115 1 [1, 2, 3] [] (fun ρ => [(pt (nb ρ 0))]) (fun ρ => [(0, (nw ρ 0 (cL (rowK .u32 64 (fun _ => 0)) 115)))]) (cR [[]] <| cN) (fun ρ2 => ?_)
 refine ok_seq ?_
 refine sS Tryz.f115 1 [1, 2, 3, 9] [] (fun _ => [(vi 0)]) (fun _ => []) (cR [[]] <| cN) (fun _ => ?_)
 refine ok_block ?_
 refine oL (σ := Nat × (Array Value)) (fun ⟨i, _⟩ => [(1, (pt (nb ρ1 0))), (2, (pt (nb ρ1 1))), (3, (pt (nb ρ2 0))), (9, (vn i))]) (fun ⟨_, C⟩ => [(nb ρ1 0, (cL ((bs X).toArray) 106)), (nb ρ1 1, (cL (rowK .u32 64 (fun _ => 0)) 115)), (nb ρ2 0, (cL C 115))]) (fun ⟨i, _⟩ => 16 - i)
   (fun ⟨i, C⟩ => (i ≤ 16) ∧ (C = rowK .u32 64 (sc X i 0))) (0, rowK .u32 64 (fun _ => 0)) (⟨by decide, zrow_sc X⟩) [] ?_
 rintro ⟨i, C⟩ ⟨hi, hC⟩
 change Ok Tryz.prog _ _ 85 [(1, (pt (nb ρ1 0))), (2, (pt (nb ρ1 1))), (3, (pt (nb ρ2 0))), (9, (vn i))] _ [(nb ρ1 0, (cL ((bs X).toArray) 106)), (nb ρ1 1, (cL (rowK .u32 64 (fun _ => 0)) 115)), (nb ρ2 0, (cL C 115))] (fun _ => True)
 refine sS Tryz.f115 1 [1, 2, 3, 9, 10] [] (fun _ => [(.bool (decide (((i : Nat) : Int) < 16)))]) (fun _ => []) (cR [[]] <| cN) (fun _ => ?_)
 refine ok_seq ?_
 refine oC (decide (((i : Nat) : Int) < 16)) (fun hb1 => ?_) (fun hb1 => ?_)
 ·
  rw [hb1]
  refine ok_skip ?_
  refine mt_then ?_
  refine ok_seq ?_
  refine ok_block ?_
  refine sS Tryz.f115 2 [1, 2, 3, 4, 9] [] (fun _ => [(vn i), (vn i)]) (fun _ => []) (cR [[], []] <| cN) (fun _ => ?_)
  refine sS Tryz.f115 1 [1, 2, 3, 4, 9, 12] [] (fun _ => [(vi 0)]) (fun _ => []) (cR [[]] <| cN) (fun _ => ?_)
  refine ok_block ?_
  refine oL (σ := Nat × (Array Value)) (fun ⟨j, _⟩ => [(1, (pt (nb ρ1 0))), (2, (pt (nb ρ1 1))), (3, (pt (nb ρ2 0))), (4, (vn i)), (9, (vn i)), (12, (vn j))]) (fun ⟨_, C2⟩ => [(nb ρ1 0, (cL ((bs X).toArray) 106)), (nb ρ1 1, (cL (rowK .u32 64 (fun _ => 0)) 115)), (nb ρ2 0, (cL C2 115))]) (fun ⟨j, _⟩ => 4 - j)
    (fun ⟨j, C2⟩ => (j ≤ 4) ∧ (C2 = rowK .u32 64 (sc X i j))) (0, C) (⟨by decide, hC⟩) [] ?_
  rintro ⟨j, C2⟩ ⟨hj, hC2⟩
  change Ok Tryz.prog _ _ 85 [(1, (pt (nb ρ1 0))), (2, (pt (nb ρ1 1))), (3, (pt (nb ρ2 0))), (4, (vn i)), (9, (vn i)), (12, (vn j))] _ [(nb ρ1 0, (cL ((bs X).toArray) 106)), (nb ρ1 1, (cL (rowK .u32 64 (fun _ => 0)) 115)), (nb ρ2 0, (cL C2 115))] (fun _ => True)
  refine sS Tryz.f115 1 [1, 2, 3, 4, 9, 12, 13] [] (fun _ => [(.bool (decide (((j : Nat) : Int) < 4)))]) (fun _ => []) (cR [[]] <| cN) (fun _ => ?_)
  refine ok_seq ?_
  refine oC (decide (((j : Nat) : Int) < 4)) (fun hb2 => ?_) (fun hb2 => ?_)
  ·
   rw [hb2]
   refine ok_skip ?_
   refine mt_then ?_
   refine ok_seq ?_
   refine ok_block ?_
   refine sS Tryz.f115 2 [1, 2, 3, 4, 5, 9, 12] [] (fun _ => [(vn j), (vn j)]) (fun _ => []) (cR [[], []] <| cN) (fun _ => ?_)
   refine rD Tryz.f115 [0, 0, 2, 6, 14, 0, 32, 0, 224, 480, 992, 2016, 4094, 8191, 16383] 15 [1, 2, 3, 4, 9, 12] [] (fun _ => [(vn i), (vn i), (.pointer (some ⟨nb ρ2 0, i, none⟩)), (.int .u32 ((pwb X i j : Nat) : Int)), (.int .u32 ((pwb X i j * 256 : Nat) : Int)), (vn i), (vn (4 * i)), (vn j), (vn ((4 * i) + j)), (.pointer (some ⟨nb ρ1 0, (4 * i) + j, none⟩)), (.int .u8 ((gB X ((4 * i) + j) : Nat) : Int)), (.int .u32 ((gB X ((4 * i) + j) : Nat) : Int)), (.int .u32 ((pwb X i (j + 1) : Nat) : Int)), (.pointer (some ⟨nb ρ2 0, i, none⟩)), undef]) (fun _ => [(14, (pwt 2 (nb ρ2 0) (cL (C2.setIfInBounds i (.int .u32 ((pwb X i (j + 1) : Nat) : Int))) 115)))]) (cR [[], []] <| cX (o_sem _ (fun _ => do pure (Next.value (← Instr.indexAt 115 (pt (nb ρ2 0)) (vn i)))) (fun _ => (.pointer (some ⟨nb ρ2 0, i, none⟩))) (fun _ => by kernel_rfl) (fun _ => by kernel_rfl) (fun _ w => run_idx_nat (n := ((i : Nat) : Int)) (i := i) Tryz.underlying115 Tryz.sizeOf41 ((by have := yT hb1; have := yT hb2; have := hX; have := hi; have := hj; omega)) w)) <| cX (o_ld _ 2 41 (fun _ => nb ρ2 0) (fun _ => i) (fun _ => C2) 115 (0, 0) (fun _ => (.int .u32 ((pwb X i j : Nat) : Int))) (fun _ => by kernel_rfl) Tryz.isAgg41 (fun _ => (by rw [hC2, rowK_get (by have := yT hb1; have := yT hb2; have := hX; have := hi; have := hj; omega), sc_at]))) <| cB (a := fun ρ => (.int .u32 ((pwb X i j : Nat) : Int))) (b := fun ρ => (.int .u64 8)) (v := fun ρ => (.int .u32 ((pwb X i j * 256 : Nat) : Int))) .shl 41 (fun _ w => run_pw8 (by have := yT hb1; have := yT hb2; have := hX; have := hi; have := hj; omega) w) <| cR [[]] <| cA (v := fun ρ => (vi (IntKind.i64.wrap (4 * ((i : Nat) : Int))))) (fun _ => (vn (4 * i))) (fun _ => congrArg (Value.int .i64) (wrap_mulN 4 i (by have := yT hb1; have := yT hb2; have := hX; have := hi; have := hj; omega))) <| cR [[]] <| cA (v := fun ρ => (vi (IntKind.i64.wrap (((4 * i : Nat) : Int) + ((j : Nat) : Int))))) (fun _ => (vn ((4 * i) + j))) (fun _ => congrArg (Value.int .i64) (wrap_addN (4 * i) j (by have := yT hb1; have := yT hb2; have := hX; have := hi; have := hj; omega))) <| cX (o_sem _ (fun _ => do pure (Next.value (← Instr.indexAt 106 (pt (nb ρ1 0)) (vn ((4 * i) + j))))) (fun _ => (.pointer (some ⟨nb ρ1 0, (4 * i) + j, none⟩))) (fun _ => by kernel_rfl) (fun _ => by kernel_rfl) (fun _ w => run_idx_nat (n := (((4 * i) + j : Nat) : Int)) (i := (4 * i) + j) Tryz.underlying106 Tryz.sizeOf5 ((by have := yT hb1; have := yT hb2; have := hX; have := hi; have := hj; omega)) w)) <| cX (o_ld _ 0 5 (fun _ => nb ρ1 0) (fun _ => (4 * i) + j) (fun _ => ((bs X).toArray)) 106 (0, 0) (fun _ => (.int .u8 ((gB X ((4 * i) + j) : Nat) : Int))) (fun _ => by kernel_rfl) Tryz.isAgg5 (fun _ => (bsA_get (by rw [hX]; have := yT hb1; have := yT hb2; have := hX; have := hi; have := hj; omega)))) <| cA (v := fun ρ => (.int .u32 (IntKind.u32.wrap (((gB X ((4 * i) + j) : Nat) : Int))))) (fun _ => (.int .u32 ((gB X ((4 * i) + j) : Nat) : Int))) (fun _ => congrArg (Value.int .u32) (u32N (Nat.lt_of_lt_of_le (gB_lt _ _) (by decide)))) <| cA (v := fun ρ => (.int .u32 (bits .or .u32 ((pwb X i j * 256 : Nat) : Int) ((gB X ((4 * i) + j) : Nat) : Int)))) (fun _ => (.int .u32 ((pwb X i (j + 1) : Nat) : Int))) (fun _ => congrArg (Value.int .u32) (or_pw (by have := yT hb1; have := yT hb2; have := hX; have := hi; have := hj; omega))) <| cX (o_sem _ (fun _ => do pure (Next.value (← Instr.indexAt 115 (pt (nb ρ2 0)) (vn i)))) (fun _ => (.pointer (some ⟨nb ρ2 0, i, none⟩))) (fun _ => by kernel_rfl) (fun _ => by kernel_rfl) (fun _ w => run_idx_nat (n := ((i : Nat) : Int)) (i := i) Tryz.underlying115 Tryz.sizeOf41 ((by have := yT hb1; have := yT hb2; have := hX; have := hi; have := hj; omega)) w)) <| cX (o_st _ 2 41 (fun _ => nb ρ2 0) (fun _ => i) (fun _ => C2) (fun _ => (C2.setIfInBounds i (.int .u32 ((pwb X i (j + 1) : Nat) : Int)))) 115 (fun _ => (.int .u32 ((pwb X i (j + 1) : Nat) : Int))) (fun _ => by kernel_rfl) Tryz.sizeOf41 (fun _ => rfl) (fun _ => (by rw [hC2, rowK_size]; have := yT hb1; have := yT hb2; have := hX; have := hi; have := hj; omega)) (fun _ => rfl)) <| cN) (fun _ => ?_)
   refine mt_block_n ?_
   refine mt_then ?_
   refine rS Tryz.f115 2 [1, 2, 3, 4, 9, 12] [] (fun _ => [(vn (j + 1)), (vn (j + 1))]) (fun _ => []) (cA (v := fun ρ => (vi (IntKind.i64.wrap (((j : Nat) : Int) + 1)))) (fun _ => (vn (j + 1))) (fun _ => congrArg (Value.int .i64) (wrap_addN j 1 (by have := yT hb1; have := yT hb2; have := hX; have := hi; have := hj; omega))) <| cR [[]] <| cN) (fun _ => ?_)
   exact mN (j + 1, C2.setIfInBounds i (.int .u32 ((pwb X i (j + 1) : Nat) : Int))) (by show 4 - (j + 1) < 4 - j; have := yT hb1; have := yT hb2; have := hX; have := hi; have := hj; omega) (⟨(by have := yT hb1; have := yT hb2; have := hX; have := hi; have := hj; omega), by rw [hC2]; exact sc_set⟩) []
  ·
   rw [hb2]
   refine ok_exit ?_
   refine mt_then_e ?_
   refine mt_then_e ?_
   refine mt_block_h ?_
   refine mt_block_n ?_
   refine mt_then ?_
   refine rS Tryz.f115 2 [1, 2, 3, 9] [] (fun _ => [(vn (i + 1)), (vn (i + 1))]) (fun _ => []) (cA (v := fun ρ => (vi (IntKind.i64.wrap (((i : Nat) : Int) + 1)))) (fun _ => (vn (i + 1))) (fun _ => congrArg (Value.int .i64) (wrap_addN i 1 (by have := yT hb1; have := yF hb2; have := hX; have := hi; have := hj; omega))) <| cR [[]] <| cN) (fun _ => ?_)
   exact mN (i + 1, C2) (by show 16 - (i + 1) < 16 - i; have := yT hb1; have := yF hb2; have := hX; have := hi; have := hj; omega) (⟨(by have := yT hb1; have := yF hb2; have := hX; have := hi; have := hj; omega), hC2.trans (by rw [show j = 4 by have := yT hb1; have := yF hb2; have := hX; have := hi; have := hj; omega]; exact sc_next X i)⟩) []
 ·
  rw [hb1]
  refine ok_exit ?_
  refine mt_then_e ?_
  refine mt_then_e ?_
  refine mt_block_h ?_
  refine mt_then ?_
  refine ok_seq ?_
  refine sS Tryz.f115 1 [2, 3, 6] [0, 1, 1] (fun _ => [(vi 16)]) (fun _ => []) (cR [[]] <| cN) (fun _ => ?_)
  refine ok_block ?_
  refine oL (σ := Nat × (Array Value)) (fun ⟨k, _⟩ => [(2, (pt (nb ρ1 1))), (3, (pt (nb ρ2 0))), (6, (vn k))]) (fun ⟨_, C3⟩ => [(nb ρ1 1, (cL (rowK .u32 64 (fun _ => 0)) 115)), (nb ρ2 0, (cL C3 115))]) (fun ⟨k, _⟩ => 64 - k)
    (fun ⟨k, C3⟩ => (16 ≤ k ∧ k ≤ 64) ∧ (C3 = rowK .u32 64 (tc X k))) (16, C) (⟨by decide, hC.trans (by rw [show i = 16 by have := yF hb1; have := hX; have := hi; omega]; exact sc_tc X)⟩) [] ?_
  rintro ⟨k, C3⟩ ⟨hk, hC3⟩
  change Ok Tryz.prog _ _ 85 [(2, (pt (nb ρ1 1))), (3, (pt (nb ρ2 0))), (6, (vn k))] _ [(nb ρ1 1, (cL (rowK .u32 64 (fun _ => 0)) 115)), (nb ρ2 0, (cL C3 115))] (fun _ => True)
  refine ok_seq ?_
  refine sS Tryz.f115 2 [2, 3, 6, 32] [] (fun _ => [(vn k), (.bool (decide (((k : Nat) : Int) < 64)))]) (fun _ => []) (cR [[], []] <| cN) (fun _ => ?_)
  refine oC (decide (((k : Nat) : Int) < 64)) (fun hb3 => ?_) (fun hb3 => ?_)
  ·
   rw [hb3]
   refine ok_skip ?_
   refine mt_then ?_
   refine ok_seq ?_
   refine ok_block ?_
   refine sD Tryz.f115 [0, 1, 3, 7, 15, 0, 32, 96, 224, 511, 1023, 0, 2048, 6144, 14336, 30720, 65535, 131071] 18 [2, 3, 6, 7] [] (fun _ => [(vn k), (vi (((k : Nat) : Int) - 15)), (.pointer (some ⟨nb ρ2 0, k - 15, none⟩)), (.int .u32 ((wN X (k - 15) : Nat) : Int)), (.int .u32 ((rot32 (wN X (k - 15)) 7 : Nat) : Int)), (vn k), (vi (((k : Nat) : Int) - 15)), (.pointer (some ⟨nb ρ2 0, k - 15, none⟩)), (.int .u32 ((wN X (k - 15) : Nat) : Int)), (.int .u32 ((rot32 (wN X (k - 15)) 18 : Nat) : Int)), (.int .u32 (((rot32 (wN X (k - 15)) 7) ^^^ (rot32 (wN X (k - 15)) 18) : Nat) : Int)), (vn k), (vi (((k : Nat) : Int) - 15)), (.pointer (some ⟨nb ρ2 0, k - 15, none⟩)), (.int .u32 ((wN X (k - 15) : Nat) : Int)), (.int .u32 (((wN X (k - 15)) / 2 ^ 3 : Nat) : Int)), (.int .u32 ((((rot32 (wN X (k - 15)) 7) ^^^ (rot32 (wN X (k - 15)) 18)) ^^^ ((wN X (k - 15)) / 2 ^ 3) : Nat) : Int)), (.int .u32 ((((rot32 (wN X (k - 15)) 7) ^^^ (rot32 (wN X (k - 15)) 18)) ^^^ ((wN X (k - 15)) / 2 ^ 3) : Nat) : Int))]) (fun _ => []) (cR [[]] <| cA (v := fun ρ => (vi (IntKind.i64.wrap (((k : Nat) : Int) - 15)))) (fun _ => (vi (((k : Nat) : Int) - 15))) (fun _ => congrArg (Value.int .i64) (i64N (by have := yF hb1; have := yT hb3; have := hX; have := hi; have := hk; omega))) <| cX (o_sem _ (fun _ => do pure (Next.value (← Instr.indexAt 115 (pt (nb ρ2 0)) (vi (((k : Nat) : Int) - 15))))) (fun _ => (.pointer (some ⟨nb ρ2 0, k - 15, none⟩))) (fun _ => by kernel_rfl) (fun _ => by kernel_rfl) (fun _ w => run_idx_nat (n := ((k : Nat) : Int) - 15) (i := k - 15) Tryz.underlying115 Tryz.sizeOf41 ((by have := yF hb1; have := yT hb3; have := hX; have := hi; have := hk; omega)) w)) <| cX (o_ld _ 1 41 (fun _ => nb ρ2 0) (fun _ => k - 15) (fun _ => C3) 115 (0, 0) (fun _ => (.int .u32 ((wN X (k - 15) : Nat) : Int))) (fun _ => by kernel_rfl) Tryz.isAgg41 (fun _ => (by rw [hC3]; exact tc_get (by have := yF hb1; have := yT hb3; have := hX; have := hi; have := hk; omega) (by have := yF hb1; have := yT hb3; have := hX; have := hi; have := hk; omega)))) <| cC (f := 116) (args := fun ρ => #[(.int .u32 ((wN X (k - 15) : Nat) : Int)), (vi 7)]) (v := fun ρ => (.int .u32 ((rot32 (wN X (k - 15)) 7 : Nat) : Int))) (fun _ w => (fun w => rotr_any (wN X (k - 15)) 7 (wN_lt _ _) (by decide) w) w) <| cR [[]] <| cA (v := fun ρ => (vi (IntKind.i64.wrap (((k : Nat) : Int) - 15)))) (fun _ => (vi (((k : Nat) : Int) - 15))) (fun _ => congrArg (Value.int .i64) (i64N (by have := yF hb1; have := yT hb3; have := hX; have := hi; have := hk; omega))) <| cX (o_sem _ (fun _ => do pure (Next.value (← Instr.indexAt 115 (pt (nb ρ2 0)) (vi (((k : Nat) : Int) - 15))))) (fun _ => (.pointer (some ⟨nb ρ2 0, k - 15, none⟩))) (fun _ => by kernel_rfl) (fun _ => by kernel_rfl) (fun _ w => run_idx_nat (n := ((k : Nat) : Int) - 15) (i := k - 15) Tryz.underlying115 Tryz.sizeOf41 ((by have := yF hb1; have := yT hb3; have := hX; have := hi; have := hk; omega)) w)) <| cX (o_ld _ 1 41 (fun _ => nb ρ2 0) (fun _ => k - 15) (fun _ => C3) 115 (0, 0) (fun _ => (.int .u32 ((wN X (k - 15) : Nat) : Int))) (fun _ => by kernel_rfl) Tryz.isAgg41 (fun _ => (by rw [hC3]; exact tc_get (by have := yF hb1; have := yT hb3; have := hX; have := hi; have := hk; omega) (by have := yF hb1; have := yT hb3; have := hX; have := hi; have := hk; omega)))) <| cC (f := 116) (args := fun ρ => #[(.int .u32 ((wN X (k - 15) : Nat) : Int)), (vi 18)]) (v := fun ρ => (.int .u32 ((rot32 (wN X (k - 15)) 18 : Nat) : Int))) (fun _ w => (fun w => rotr_any (wN X (k - 15)) 18 (wN_lt _ _) (by decide) w) w) <| cA (v := fun ρ => (.int .u32 (bits .xor .u32 ((rot32 (wN X (k - 15)) 7 : Nat) : Int) ((rot32 (wN X (k - 15)) 18 : Nat) : Int)))) (fun _ => (.int .u32 (((rot32 (wN X (k - 15)) 7) ^^^ (rot32 (wN X (k - 15)) 18) : Nat) : Int))) (fun _ => congrArg (Value.int .u32) (xor32 (rot32_lt _ (wN_lt _ _)) (rot32_lt _ (wN_lt _ _)))) <| cR [[]] <| cA (v := fun ρ => (vi (IntKind.i64.wrap (((k : Nat) : Int) - 15)))) (fun _ => (vi (((k : Nat) : Int) - 15))) (fun _ => congrArg (Value.int .i64) (i64N (by have := yF hb1; have := yT hb3; have := hX; have := hi; have := hk; omega))) <| cX (o_sem _ (fun _ => do pure (Next.value (← Instr.indexAt 115 (pt (nb ρ2 0)) (vi (((k : Nat) : Int) - 15))))) (fun _ => (.pointer (some ⟨nb ρ2 0, k - 15, none⟩))) (fun _ => by kernel_rfl) (fun _ => by kernel_rfl) (fun _ w => run_idx_nat (n := ((k : Nat) : Int) - 15) (i := k - 15) Tryz.underlying115 Tryz.sizeOf41 ((by have := yF hb1; have := yT hb3; have := hX; have := hi; have := hk; omega)) w)) <| cX (o_ld _ 1 41 (fun _ => nb ρ2 0) (fun _ => k - 15) (fun _ => C3) 115 (0, 0) (fun _ => (.int .u32 ((wN X (k - 15) : Nat) : Int))) (fun _ => by kernel_rfl) Tryz.isAgg41 (fun _ => (by rw [hC3]; exact tc_get (by have := yF hb1; have := yT hb3; have := hX; have := hi; have := hk; omega) (by have := yF hb1; have := yT hb3; have := hX; have := hi; have := hk; omega)))) <| cB (a := fun ρ => (.int .u32 ((wN X (k - 15) : Nat) : Int))) (b := fun ρ => (.int .u64 3)) (v := fun ρ => (.int .u32 (((wN X (k - 15)) / 2 ^ 3 : Nat) : Int))) .shr 41 (fun _ w => run_shrU (k := .u32) (x := (wN X (k - 15))) (c := 3) (wN_lt _ _) w) <| cA (v := fun ρ => (.int .u32 (bits .xor .u32 (((rot32 (wN X (k - 15)) 7) ^^^ (rot32 (wN X (k - 15)) 18) : Nat) : Int) (((wN X (k - 15)) / 2 ^ 3 : Nat) : Int)))) (fun _ => (.int .u32 ((((rot32 (wN X (k - 15)) 7) ^^^ (rot32 (wN X (k - 15)) 18)) ^^^ ((wN X (k - 15)) / 2 ^ 3) : Nat) : Int))) (fun _ => congrArg (Value.int .u32) (xor32 (xor32_lt (rot32_lt _ (wN_lt _ _)) (rot32_lt _ (wN_lt _ _))) (shr32_lt _ (wN_lt _ _)))) <| cR [[]] <| cN) (fun _ => ?_)
   refine sD Tryz.f115 [0, 1, 3, 7, 15, 0, 32, 96, 224, 511, 1023, 0, 2048, 6144, 14336, 30720, 65535, 131071] 18 [2, 3, 6, 7, 8] [] (fun _ => [(vn k), (vi (((k : Nat) : Int) - 2)), (.pointer (some ⟨nb ρ2 0, k - 2, none⟩)), (.int .u32 ((wN X (k - 2) : Nat) : Int)), (.int .u32 ((rot32 (wN X (k - 2)) 17 : Nat) : Int)), (vn k), (vi (((k : Nat) : Int) - 2)), (.pointer (some ⟨nb ρ2 0, k - 2, none⟩)), (.int .u32 ((wN X (k - 2) : Nat) : Int)), (.int .u32 ((rot32 (wN X (k - 2)) 19 : Nat) : Int)), (.int .u32 (((rot32 (wN X (k - 2)) 17) ^^^ (rot32 (wN X (k - 2)) 19) : Nat) : Int)), (vn k), (vi (((k : Nat) : Int) - 2)), (.pointer (some ⟨nb ρ2 0, k - 2, none⟩)), (.int .u32 ((wN X (k - 2) : Nat) : Int)), (.int .u32 (((wN X (k - 2)) / 2 ^ 10 : Nat) : Int)), (.int .u32 ((((rot32 (wN X (k - 2)) 17) ^^^ (rot32 (wN X (k - 2)) 19)) ^^^ ((wN X (k - 2)) / 2 ^ 10) : Nat) : Int)), (.int .u32 ((((rot32 (wN X (k - 2)) 17) ^^^ (rot32 (wN X (k - 2)) 19)) ^^^ ((wN X (k - 2)) / 2 ^ 10) : Nat) : Int))]) (fun _ => []) (cR [[]] <| cA (v := fun ρ => (vi (IntKind.i64.wrap (((k : Nat) : Int) - 2)))) (fun _ => (vi (((k : Nat) : Int) - 2))) (fun _ => congrArg (Value.int .i64) (i64N (by have := yF hb1; have := yT hb3; have := hX; have := hi; have := hk; omega))) <| cX (o_sem _ (fun _ => do pure (Next.value (← Instr.indexAt 115 (pt (nb ρ2 0)) (vi (((k : Nat) : Int) - 2))))) (fun _ => (.pointer (some ⟨nb ρ2 0, k - 2, none⟩))) (fun _ => by kernel_rfl) (fun _ => by kernel_rfl) (fun _ w => run_idx_nat (n := ((k : Nat) : Int) - 2) (i := k - 2) Tryz.underlying115 Tryz.sizeOf41 ((by have := yF hb1; have := yT hb3; have := hX; have := hi; have := hk; omega)) w)) <| cX (o_ld _ 1 41 (fun _ => nb ρ2 0) (fun _ => k - 2) (fun _ => C3) 115 (0, 0) (fun _ => (.int .u32 ((wN X (k - 2) : Nat) : Int))) (fun _ => by kernel_rfl) Tryz.isAgg41 (fun _ => (by rw [hC3]; exact tc_get (by have := yF hb1; have := yT hb3; have := hX; have := hi; have := hk; omega) (by have := yF hb1; have := yT hb3; have := hX; have := hi; have := hk; omega)))) <| cC (f := 116) (args := fun ρ => #[(.int .u32 ((wN X (k - 2) : Nat) : Int)), (vi 17)]) (v := fun ρ => (.int .u32 ((rot32 (wN X (k - 2)) 17 : Nat) : Int))) (fun _ w => (fun w => rotr_any (wN X (k - 2)) 17 (wN_lt _ _) (by decide) w) w) <| cR [[]] <| cA (v := fun ρ => (vi (IntKind.i64.wrap (((k : Nat) : Int) - 2)))) (fun _ => (vi (((k : Nat) : Int) - 2))) (fun _ => congrArg (Value.int .i64) (i64N (by have := yF hb1; have := yT hb3; have := hX; have := hi; have := hk; omega))) <| cX (o_sem _ (fun _ => do pure (Next.value (← Instr.indexAt 115 (pt (nb ρ2 0)) (vi (((k : Nat) : Int) - 2))))) (fun _ => (.pointer (some ⟨nb ρ2 0, k - 2, none⟩))) (fun _ => by kernel_rfl) (fun _ => by kernel_rfl) (fun _ w => run_idx_nat (n := ((k : Nat) : Int) - 2) (i := k - 2) Tryz.underlying115 Tryz.sizeOf41 ((by have := yF hb1; have := yT hb3; have := hX; have := hi; have := hk; omega)) w)) <| cX (o_ld _ 1 41 (fun _ => nb ρ2 0) (fun _ => k - 2) (fun _ => C3) 115 (0, 0) (fun _ => (.int .u32 ((wN X (k - 2) : Nat) : Int))) (fun _ => by kernel_rfl) Tryz.isAgg41 (fun _ => (by rw [hC3]; exact tc_get (by have := yF hb1; have := yT hb3; have := hX; have := hi; have := hk; omega) (by have := yF hb1; have := yT hb3; have := hX; have := hi; have := hk; omega)))) <| cC (f := 116) (args := fun ρ => #[(.int .u32 ((wN X (k - 2) : Nat) : Int)), (vi 19)]) (v := fun ρ => (.int .u32 ((rot32 (wN X (k - 2)) 19 : Nat) : Int))) (fun _ w => (fun w => rotr_any (wN X (k - 2)) 19 (wN_lt _ _) (by decide) w) w) <| cA (v := fun ρ => (.int .u32 (bits .xor .u32 ((rot32 (wN X (k - 2)) 17 : Nat) : Int) ((rot32 (wN X (k - 2)) 19 : Nat) : Int)))) (fun _ => (.int .u32 (((rot32 (wN X (k - 2)) 17) ^^^ (rot32 (wN X (k - 2)) 19) : Nat) : Int))) (fun _ => congrArg (Value.int .u32) (xor32 (rot32_lt _ (wN_lt _ _)) (rot32_lt _ (wN_lt _ _)))) <| cR [[]] <| cA (v := fun ρ => (vi (IntKind.i64.wrap (((k : Nat) : Int) - 2)))) (fun _ => (vi (((k : Nat) : Int) - 2))) (fun _ => congrArg (Value.int .i64) (i64N (by have := yF hb1; have := yT hb3; have := hX; have := hi; have := hk; omega))) <| cX (o_sem _ (fun _ => do pure (Next.value (← Instr.indexAt 115 (pt (nb ρ2 0)) (vi (((k : Nat) : Int) - 2))))) (fun _ => (.pointer (some ⟨nb ρ2 0, k - 2, none⟩))) (fun _ => by kernel_rfl) (fun _ => by kernel_rfl) (fun _ w => run_idx_nat (n := ((k : Nat) : Int) - 2) (i := k - 2) Tryz.underlying115 Tryz.sizeOf41 ((by have := yF hb1; have := yT hb3; have := hX; have := hi; have := hk; omega)) w)) <| cX (o_ld _ 1 41 (fun _ => nb ρ2 0) (fun _ => k - 2) (fun _ => C3) 115 (0, 0) (fun _ => (.int .u32 ((wN X (k - 2) : Nat) : Int))) (fun _ => by kernel_rfl) Tryz.isAgg41 (fun _ => (by rw [hC3]; exact tc_get (by have := yF hb1; have := yT hb3; have := hX; have := hi; have := hk; omega) (by have := yF hb1; have := yT hb3; have := hX; have := hi; have := hk; omega)))) <| cB (a := fun ρ => (.int .u32 ((wN X (k - 2) : Nat) : Int))) (b := fun ρ => (.int .u64 10)) (v := fun ρ => (.int .u32 (((wN X (k - 2)) / 2 ^ 10 : Nat) : Int))) .shr 41 (fun _ w => run_shrU (k := .u32) (x := (wN X (k - 2))) (c := 10) (wN_lt _ _) w) <| cA (v := fun ρ => (.int .u32 (bits .xor .u32 (((rot32 (wN X (k - 2)) 17) ^^^ (rot32 (wN X (k - 2)) 19) : Nat) : Int) (((wN X (k - 2)) / 2 ^ 10 : Nat) : Int)))) (fun _ => (.int .u32 ((((rot32 (wN X (k - 2)) 17) ^^^ (rot32 (wN X (k - 2)) 19)) ^^^ ((wN X (k - 2)) / 2 ^ 10) : Nat) : Int))) (fun _ => congrArg (Value.int .u32) (xor32 (xor32_lt (rot32_lt _ (wN_lt _ _)) (rot32_lt _ (wN_lt _ _))) (shr32_lt _ (wN_lt _ _)))) <| cR [[]] <| cN) (fun _ => ?_)
   refine rD Tryz.f115 [0, 0, 2, 6, 14, 0, 62, 0, 128, 384, 896, 2046, 0, 8190, 16383, 32767] 16 [2, 3, 6] [] (fun _ => [(vn k), (vn k), (vi (((k : Nat) : Int) - 16)), (.pointer (some ⟨nb ρ2 0, k - 16, none⟩)), (.int .u32 ((wN X (k - 16) : Nat) : Int)), (.int .u32 ((((rot32 (wN X (k - 15)) 7) ^^^ (rot32 (wN X (k - 15)) 18)) ^^^ ((wN X (k - 15)) / 2 ^ 3) : Nat) : Int)), (.int .u32 ((add32 (wN X (k - 16)) (((rot32 (wN X (k - 15)) 7) ^^^ (rot32 (wN X (k - 15)) 18)) ^^^ ((wN X (k - 15)) / 2 ^ 3)) : Nat) : Int)), (vn k), (vi (((k : Nat) : Int) - 7)), (.pointer (some ⟨nb ρ2 0, k - 7, none⟩)), (.int .u32 ((wN X (k - 7) : Nat) : Int)), (.int .u32 ((add32 (add32 (wN X (k - 16)) (((rot32 (wN X (k - 15)) 7) ^^^ (rot32 (wN X (k - 15)) 18)) ^^^ ((wN X (k - 15)) / 2 ^ 3))) (wN X (k - 7)) : Nat) : Int)), (.int .u32 ((((rot32 (wN X (k - 2)) 17) ^^^ (rot32 (wN X (k - 2)) 19)) ^^^ ((wN X (k - 2)) / 2 ^ 10) : Nat) : Int)), (.int .u32 ((add32 (add32 (add32 (wN X (k - 16)) (((rot32 (wN X (k - 15)) 7) ^^^ (rot32 (wN X (k - 15)) 18)) ^^^ ((wN X (k - 15)) / 2 ^ 3))) (wN X (k - 7))) (((rot32 (wN X (k - 2)) 17) ^^^ (rot32 (wN X (k - 2)) 19)) ^^^ ((wN X (k - 2)) / 2 ^ 10)) : Nat) : Int)), (.pointer (some ⟨nb ρ2 0, k, none⟩)), undef]) (fun _ => [(15, (pwt 1 (nb ρ2 0) (cL (C3.setIfInBounds k (.int .u32 ((add32 (add32 (add32 (wN X (k - 16)) (((rot32 (wN X (k - 15)) 7) ^^^ (rot32 (wN X (k - 15)) 18)) ^^^ ((wN X (k - 15)) / 2 ^ 3))) (wN X (k - 7))) (((rot32 (wN X (k - 2)) 17) ^^^ (rot32 (wN X (k - 2)) 19)) ^^^ ((wN X (k - 2)) / 2 ^ 10)) : Nat) : Int))) 115)))]) (cR [[], []] <| cA (v := fun ρ => (vi (IntKind.i64.wrap (((k : Nat) : Int) - 16)))) (fun _ => (vi (((k : Nat) : Int) - 16))) (fun _ => congrArg (Value.int .i64) (i64N (by have := yF hb1; have := yT hb3; have := hX; have := hi; have := hk; omega))) <| cX (o_sem _ (fun _ => do pure (Next.value (← Instr.indexAt 115 (pt (nb ρ2 0)) (vi (((k : Nat) : Int) - 16))))) (fun _ => (.pointer (some ⟨nb ρ2 0, k - 16, none⟩))) (fun _ => by kernel_rfl) (fun _ => by kernel_rfl) (fun _ w => run_idx_nat (n := ((k : Nat) : Int) - 16) (i := k - 16) Tryz.underlying115 Tryz.sizeOf41 ((by have := yF hb1; have := yT hb3; have := hX; have := hi; have := hk; omega)) w)) <| cX (o_ld _ 1 41 (fun _ => nb ρ2 0) (fun _ => k - 16) (fun _ => C3) 115 (0, 0) (fun _ => (.int .u32 ((wN X (k - 16) : Nat) : Int))) (fun _ => by kernel_rfl) Tryz.isAgg41 (fun _ => (by rw [hC3]; exact tc_get (by have := yF hb1; have := yT hb3; have := hX; have := hi; have := hk; omega) (by have := yF hb1; have := yT hb3; have := hX; have := hi; have := hk; omega)))) <| cR [[]] <| cA (fun _ => (.int .u32 ((add32 (wN X (k - 16)) (((rot32 (wN X (k - 15)) 7) ^^^ (rot32 (wN X (k - 15)) 18)) ^^^ ((wN X (k - 15)) / 2 ^ 3)) : Nat) : Int))) (fun _ => congrArg (Value.int .u32) (wrap_add32 (wN X (k - 16)) (((rot32 (wN X (k - 15)) 7) ^^^ (rot32 (wN X (k - 15)) 18)) ^^^ ((wN X (k - 15)) / 2 ^ 3)))) <| cR [[]] <| cA (v := fun ρ => (vi (IntKind.i64.wrap (((k : Nat) : Int) - 7)))) (fun _ => (vi (((k : Nat) : Int) - 7))) (fun _ => congrArg (Value.int .i64) (i64N (by have := yF hb1; have := yT hb3; have := hX; have := hi; have := hk; omega))) <| cX (o_sem _ (fun _ => do pure (Next.value (← Instr.indexAt 115 (pt (nb ρ2 0)) (vi (((k : Nat) : Int) - 7))))) (fun _ => (.pointer (some ⟨nb ρ2 0, k - 7, none⟩))) (fun _ => by kernel_rfl) (fun _ => by kernel_rfl) (fun _ w => run_idx_nat (n := ((k : Nat) : Int) - 7) (i := k - 7) Tryz.underlying115 Tryz.sizeOf41 ((by have := yF hb1; have := yT hb3; have := hX; have := hi; have := hk; omega)) w)) <| cX (o_ld _ 1 41 (fun _ => nb ρ2 0) (fun _ => k - 7) (fun _ => C3) 115 (0, 0) (fun _ => (.int .u32 ((wN X (k - 7) : Nat) : Int))) (fun _ => by kernel_rfl) Tryz.isAgg41 (fun _ => (by rw [hC3]; exact tc_get (by have := yF hb1; have := yT hb3; have := hX; have := hi; have := hk; omega) (by have := yF hb1; have := yT hb3; have := hX; have := hi; have := hk; omega)))) <| cA (fun _ => (.int .u32 ((add32 (add32 (wN X (k - 16)) (((rot32 (wN X (k - 15)) 7) ^^^ (rot32 (wN X (k - 15)) 18)) ^^^ ((wN X (k - 15)) / 2 ^ 3))) (wN X (k - 7)) : Nat) : Int))) (fun _ => congrArg (Value.int .u32) (wrap_add32 (add32 (wN X (k - 16)) (((rot32 (wN X (k - 15)) 7) ^^^ (rot32 (wN X (k - 15)) 18)) ^^^ ((wN X (k - 15)) / 2 ^ 3))) (wN X (k - 7)))) <| cR [[]] <| cA (fun _ => (.int .u32 ((add32 (add32 (add32 (wN X (k - 16)) (((rot32 (wN X (k - 15)) 7) ^^^ (rot32 (wN X (k - 15)) 18)) ^^^ ((wN X (k - 15)) / 2 ^ 3))) (wN X (k - 7))) (((rot32 (wN X (k - 2)) 17) ^^^ (rot32 (wN X (k - 2)) 19)) ^^^ ((wN X (k - 2)) / 2 ^ 10)) : Nat) : Int))) (fun _ => congrArg (Value.int .u32) (wrap_add32 (add32 (add32 (wN X (k - 16)) (((rot32 (wN X (k - 15)) 7) ^^^ (rot32 (wN X (k - 15)) 18)) ^^^ ((wN X (k - 15)) / 2 ^ 3))) (wN X (k - 7))) (((rot32 (wN X (k - 2)) 17) ^^^ (rot32 (wN X (k - 2)) 19)) ^^^ ((wN X (k - 2)) / 2 ^ 10)))) <| cX (o_sem _ (fun _ => do pure (Next.value (← Instr.indexAt 115 (pt (nb ρ2 0)) (vn k)))) (fun _ => (.pointer (some ⟨nb ρ2 0, k, none⟩))) (fun _ => by kernel_rfl) (fun _ => by kernel_rfl) (fun _ w => run_idx_nat (n := ((k : Nat) : Int)) (i := k) Tryz.underlying115 Tryz.sizeOf41 ((by have := yF hb1; have := yT hb3; have := hX; have := hi; have := hk; omega)) w)) <| cX (o_st _ 1 41 (fun _ => nb ρ2 0) (fun _ => k) (fun _ => C3) (fun _ => (C3.setIfInBounds k (.int .u32 ((add32 (add32 (add32 (wN X (k - 16)) (((rot32 (wN X (k - 15)) 7) ^^^ (rot32 (wN X (k - 15)) 18)) ^^^ ((wN X (k - 15)) / 2 ^ 3))) (wN X (k - 7))) (((rot32 (wN X (k - 2)) 17) ^^^ (rot32 (wN X (k - 2)) 19)) ^^^ ((wN X (k - 2)) / 2 ^ 10)) : Nat) : Int)))) 115 (fun _ => (.int .u32 ((add32 (add32 (add32 (wN X (k - 16)) (((rot32 (wN X (k - 15)) 7) ^^^ (rot32 (wN X (k - 15)) 18)) ^^^ ((wN X (k - 15)) / 2 ^ 3))) (wN X (k - 7))) (((rot32 (wN X (k - 2)) 17) ^^^ (rot32 (wN X (k - 2)) 19)) ^^^ ((wN X (k - 2)) / 2 ^ 10)) : Nat) : Int))) (fun _ => by kernel_rfl) Tryz.sizeOf41 (fun _ => rfl) (fun _ => (by rw [hC3, rowK_size]; have := yF hb1; have := yT hb3; have := hX; have := hi; have := hk; omega)) (fun _ => rfl)) <| cN) (fun _ => ?_)
   refine mt_block_n ?_
   refine mt_then ?_
   refine rS Tryz.f115 3 [2, 3, 6] [] (fun _ => [(vn k), (vn (k + 1)), (vn (k + 1))]) (fun _ => []) (cR [[]] <| cA (v := fun ρ => (vi (IntKind.i64.wrap (((k : Nat) : Int) + 1)))) (fun _ => (vn (k + 1))) (fun _ => congrArg (Value.int .i64) (wrap_addN k 1 (by have := yF hb1; have := yT hb3; have := hX; have := hi; have := hk; omega))) <| cR [[]] <| cN) (fun _ => ?_)
   exact mN (k + 1, C3.setIfInBounds k (.int .u32 ((add32 (add32 (add32 (wN X (k - 16)) (((rot32 (wN X (k - 15)) 7) ^^^ (rot32 (wN X (k - 15)) 18)) ^^^ ((wN X (k - 15)) / 2 ^ 3))) (wN X (k - 7))) (((rot32 (wN X (k - 2)) 17) ^^^ (rot32 (wN X (k - 2)) 19)) ^^^ ((wN X (k - 2)) / 2 ^ 10)) : Nat) : Int))) (by show 64 - (k + 1) < 64 - k; have := yF hb1; have := yT hb3; have := hX; have := hi; have := hk; omega) (⟨(by have := yF hb1; have := yT hb3; have := hX; have := hi; have := hk; omega), by rw [hC3]; exact tc_set (wN_more hk.1).symm⟩) []
  ·
   rw [hb3]
   refine ok_exit ?_
   refine mt_then_e ?_
   refine mt_then_e ?_
   refine mt_block_h ?_
   rw [hC3]
   refine mt_then ?_
   refine sS Tryz.f115 2 [2] [1, 0] (fun _ => [(.agg (rowK .u32 64 (tc X k))), undef]) (fun _ => [(1, (pwt 0 (nb ρ1 1) (cL (rowK .u32 64 (tc X k)) 115)))]) (cR [[1], [0]] <| cN) (fun _ => ?_)
   refine ok_ret ?_
   exact mR (v := (.agg (rowK .u32 64 (tc X k)))) (fun _ hS => ⟨congrArg Ending.returned (congrArg Value.agg (tc_end (by have := yF hb1; have := yF hb3; have := hX; have := hi; have := hk; omega))), hS.bel⟩)
theorem compress_any (s0 : Nat) (s1 : Nat) (s2 : Nat) (s3 : Nat) (s4 : Nat) (s5 : Nat) (s6 : Nat) (s7 : Nat) (X : List UInt8) (hs : ok8 (s0, s1, s2, s3, s4, s5, s6, s7)) (hX : X.length = 64) (w0 : World) (hf0 : KbK w0) : Calls Tryz.prog 89 #[(.agg #[(.int .u32 ((s0 : Nat) : Int)), (.int .u32 ((s1 : Nat) : Int)), (.int .u32 ((s2 : Nat) : Int)), (.int .u32 ((s3 : Nat) : Int)), (.int .u32 ((s4 : Nat) : Int)), (.int .u32 ((s5 : Nat) : Int)), (.int .u32 ((s6 : Nat) : Int)), (.int .u32 ((s7 : Nat) : Int))]), (.agg ((bs X).toArray))] w0 (fun ε w' => ε = .returned (.agg #[(.int .u32 (((cmpS (s0, s1, s2, s3, s4, s5, s6, s7) X).1 : Nat) : Int)), (.int .u32 (((cmpS (s0, s1, s2, s3, s4, s5, s6, s7) X).2.1 : Nat) : Int)), (.int .u32 (((cmpS (s0, s1, s2, s3, s4, s5, s6, s7) X).2.2.1 : Nat) : Int)), (.int .u32 (((cmpS (s0, s1, s2, s3, s4, s5, s6, s7) X).2.2.2.1 : Nat) : Int)), (.int .u32 (((cmpS (s0, s1, s2, s3, s4, s5, s6, s7) X).2.2.2.2.1 : Nat) : Int)), (.int .u32 (((cmpS (s0, s1, s2, s3, s4, s5, s6, s7) X).2.2.2.2.2.1 : Nat) : Int)), (.int .u32 (((cmpS (s0, s1, s2, s3, s4, s5, s6, s7) X).2.2.2.2.2.2.1 : Nat) : Int)), (.int .u32 (((cmpS (s0, s1, s2, s3, s4, s5, s6, s7) X).2.2.2.2.2.2.2 : Nat) : Int))]) ∧ Below w0.heap.size w0 w') := by
 refine Calls.of_ok (n := 131) (F := (fun w => KbK w ∧ True)) Tryz.func89 rfl rfl rfl (by simp) (hf0.pers0.and persT) ?_
 refine sS Tryz.f89 3 [2, 3, 4] [] (fun ρ => [(pt (nb ρ 0)), (pt (nb ρ 1)), (pt (nb ρ 2))]) (fun ρ => [(0, (nw ρ 0 (cL #[(.int .u32 ((s0 : Nat) : Int)), (.int .u32 ((s1 : Nat) : Int)), (.int .u32 ((s2 : Nat) : Int)), (.int .u32 ((s3 : Nat) : Int)), (.int .u32 ((s4 : Nat) : Int)), (.int .u32 ((s5 : Nat) : Int)), (.int .u32 ((s6 : Nat) : Int)), (.int .u32 ((s7 : Nat) : Int))] 104))), (1, (nw ρ 1 (cL ((bs X).toArray) 106))), (2, (nw ρ 2 (cL #[(.int .u32 0), (.int .u32 0), (.int .u32 0), (.int .u32 0), (.int .u32 0), (.int .u32 0), (.int .u32 0), (.int .u32 0)] 104)))]) (cR [[], [], []] <| cN) (fun ρ1 => ?_)
 refine sS Tryz.f89 4 [2, 4, 5] [1, 0, 1, 1] (fun ρ => [(.agg ((bs X).toArray)), (.agg (rowK .u32 64 (wN X))), (pt (nb ρ 2)), undef]) (fun ρ => [(2, (nw ρ 2 (cL (rowK .u32 64 (fun _ => 0)) 115))), (3, (pwt 19 (nb ρ 2) (cL (rowK .u32 64 (wN X)) 115)))]) (cX (qF (fun _ _ _ hG => ld_whole Tryz.isAgg106 Tryz.sizeOf106 (hG.kn (g := nb ρ1 1) (o := (cL ((bs X).toArray) 106)) 1) ((by simp [bs, hX])))) <| cC (fun _ w => sched_any X hX w) <| cR [[], [19]] <| cN) (fun ρ2 => ?_)
 refine sD Tryz.f89 [0, 1, 0, 4, 0, 16, 0, 64, 3, 271, 831, 2047] 12 [2, 4, 5, 6, 7, 8, 9] [] (fun _ => [(pt (nb ρ1 0)), (.int .u32 ((s0 : Nat) : Int)), (.pointer (some ⟨nb ρ1 0, 1, none⟩)), (.int .u32 ((s1 : Nat) : Int)), (.pointer (some ⟨nb ρ1 0, 2, none⟩)), (.int .u32 ((s2 : Nat) : Int)), (.pointer (some ⟨nb ρ1 0, 3, none⟩)), (.int .u32 ((s3 : Nat) : Int)), (.int .u32 ((s0 : Nat) : Int)), (.int .u32 ((s1 : Nat) : Int)), (.int .u32 ((s2 : Nat) : Int)), (.int .u32 ((s3 : Nat) : Int))]) (fun _ => []) (cR [[], [0], [], [0], [], [0], [], [0], [], [], [], []] <| cN) (fun _ => ?_)
 refine sD Tryz.f89 [0, 1, 0, 4, 0, 16, 0, 64, 3, 271, 831, 2047] 12 [2, 4, 5, 6, 7, 8, 9, 10, 11, 12, 13] [] (fun _ => [(.pointer (some ⟨nb ρ1 0, 4, none⟩)), (.int .u32 ((s4 : Nat) : Int)), (.pointer (some ⟨nb ρ1 0, 5, none⟩)), (.int .u32 ((s5 : Nat) : Int)), (.pointer (some ⟨nb ρ1 0, 6, none⟩)), (.int .u32 ((s6 : Nat) : Int)), (.pointer (some ⟨nb ρ1 0, 7, none⟩)), (.int .u32 ((s7 : Nat) : Int)), (.int .u32 ((s4 : Nat) : Int)), (.int .u32 ((s5 : Nat) : Int)), (.int .u32 ((s6 : Nat) : Int)), (.int .u32 ((s7 : Nat) : Int))]) (fun _ => []) (cR [[], [0], [], [0], [], [0], [], [0], [], [], [], []] <| cN) (fun _ => ?_)
 refine ok_seq ?_
 refine sS Tryz.f89 1 [2, 4, 5, 6, 7, 8, 9, 10, 11, 12, 13, 35] [] (fun _ => [(vi 0)]) (fun _ => []) (cR [[]] <| cN) (fun _ => ?_)
 refine ok_block ?_
 refine oL (σ := Nat × Nat × Nat × Nat × Nat × Nat × Nat × Nat × Nat) (fun ⟨i, ra, rb, rc, rd, re, rf, rg, rh⟩ => [(2, (pt (nb ρ1 0))), (4, (pt (nb ρ1 2))), (5, (pt (nb ρ2 2))), (6, (.int .u32 ((ra : Nat) : Int))), (7, (.int .u32 ((rb : Nat) : Int))), (8, (.int .u32 ((rc : Nat) : Int))), (9, (.int .u32 ((rd : Nat) : Int))), (10, (.int .u32 ((re : Nat) : Int))), (11, (.int .u32 ((rf : Nat) : Int))), (12, (.int .u32 ((rg : Nat) : Int))), (13, (.int .u32 ((rh : Nat) : Int))), (35, (vn i))]) (fun ⟨_, _, _, _, _, _, _, _, _⟩ => [(nb ρ1 0, (cL #[(.int .u32 ((s0 : Nat) : Int)), (.int .u32 ((s1 : Nat) : Int)), (.int .u32 ((s2 : Nat) : Int)), (.int .u32 ((s3 : Nat) : Int)), (.int .u32 ((s4 : Nat) : Int)), (.int .u32 ((s5 : Nat) : Int)), (.int .u32 ((s6 : Nat) : Int)), (.int .u32 ((s7 : Nat) : Int))] 104)), (nb ρ1 2, (cL #[(.int .u32 0), (.int .u32 0), (.int .u32 0), (.int .u32 0), (.int .u32 0), (.int .u32 0), (.int .u32 0), (.int .u32 0)] 104)), (nb ρ2 2, (cL (rowK .u32 64 (wN X)) 115))]) (fun ⟨i, _, _, _, _, _, _, _, _⟩ => 64 - i)
   (fun ⟨i, ra, rb, rc, rd, re, rf, rg, rh⟩ => (i ≤ 64) ∧ (rnds X (s0, s1, s2, s3, s4, s5, s6, s7) i = (ra, rb, rc, rd, re, rf, rg, rh))) (0, s0, s1, s2, s3, s4, s5, s6, s7) (⟨by decide, rfl⟩) [] ?_
 rintro ⟨i, ra, rb, rc, rd, re, rf, rg, rh⟩ ⟨hi, hr⟩
 change Ok Tryz.prog _ _ 131 [(2, (pt (nb ρ1 0))), (4, (pt (nb ρ1 2))), (5, (pt (nb ρ2 2))), (6, (.int .u32 ((ra : Nat) : Int))), (7, (.int .u32 ((rb : Nat) : Int))), (8, (.int .u32 ((rc : Nat) : Int))), (9, (.int .u32 ((rd : Nat) : Int))), (10, (.int .u32 ((re : Nat) : Int))), (11, (.int .u32 ((rf : Nat) : Int))), (12, (.int .u32 ((rg : Nat) : Int))), (13, (.int .u32 ((rh : Nat) : Int))), (35, (vn i))] _ [(nb ρ1 0, (cL #[(.int .u32 ((s0 : Nat) : Int)), (.int .u32 ((s1 : Nat) : Int)), (.int .u32 ((s2 : Nat) : Int)), (.int .u32 ((s3 : Nat) : Int)), (.int .u32 ((s4 : Nat) : Int)), (.int .u32 ((s5 : Nat) : Int)), (.int .u32 ((s6 : Nat) : Int)), (.int .u32 ((s7 : Nat) : Int))] 104)), (nb ρ1 2, (cL #[(.int .u32 0), (.int .u32 0), (.int .u32 0), (.int .u32 0), (.int .u32 0), (.int .u32 0), (.int .u32 0), (.int .u32 0)] 104)), (nb ρ2 2, (cL (rowK .u32 64 (wN X)) 115))] (fun w => KbK w ∧ True)
 have ho : ok8 (ra, rb, rc, rd, re, rf, rg, rh) := hr ▸ rnds_ok hs i
 refine sS Tryz.f89 1 [2, 4, 5, 6, 7, 8, 9, 10, 11, 12, 13, 35, 36] [] (fun _ => [(.bool (decide (((i : Nat) : Int) < 64)))]) (fun _ => []) (cR [[]] <| cN) (fun _ => ?_)
 refine ok_seq ?_
 refine oC (decide (((i : Nat) : Int) < 64)) (fun hb1 => ?_) (fun hb1 => ?_)
 ·
  rw [hb1]
  refine ok_skip ?_
  refine mt_then ?_
  refine ok_seq ?_
  refine ok_block ?_
  refine sS Tryz.f89 2 [2, 4, 5, 6, 7, 8, 9, 10, 11, 12, 13, 14, 35] [] (fun _ => [(vn i), (vn i)]) (fun _ => []) (cR [[], []] <| cN) (fun _ => ?_)
  refine sD Tryz.f89 [0, 0, 2, 0, 14, 30, 0, 94, 254, 511, 0, 0, 3072, 0, 8192, 0, 57344, 130048, 262143, 0, 524288, 1572864, 4194303, 0, 8388608, 25165824, 67108863, 134217727] 28 [2, 4, 5, 6, 7, 8, 9, 10, 11, 12, 13, 15, 35] [] (fun _ => [(.int .u32 ((rh : Nat) : Int)), (.int .u32 ((re : Nat) : Int)), (.int .u32 ((rot32 re 6 : Nat) : Int)), (.int .u32 ((re : Nat) : Int)), (.int .u32 ((rot32 re 11 : Nat) : Int)), (.int .u32 (((rot32 re 6) ^^^ (rot32 re 11) : Nat) : Int)), (.int .u32 ((re : Nat) : Int)), (.int .u32 ((rot32 re 25 : Nat) : Int)), (.int .u32 ((((rot32 re 6) ^^^ (rot32 re 11)) ^^^ (rot32 re 25) : Nat) : Int)), (.int .u32 ((add32 rh (((rot32 re 6) ^^^ (rot32 re 11)) ^^^ (rot32 re 25)) : Nat) : Int)), (.int .u32 ((re : Nat) : Int)), (.int .u32 ((rf : Nat) : Int)), (.int .u32 ((re &&& rf : Nat) : Int)), (.int .u32 ((re : Nat) : Int)), (.int .u32 ((not32 re : Nat) : Int)), (.int .u32 ((rg : Nat) : Int)), (.int .u32 (((not32 re) &&& rg : Nat) : Int)), (.int .u32 (((re &&& rf) ^^^ ((not32 re) &&& rg) : Nat) : Int)), (.int .u32 ((add32 (add32 rh (((rot32 re 6) ^^^ (rot32 re 11)) ^^^ (rot32 re 25))) ((re &&& rf) ^^^ ((not32 re) &&& rg)) : Nat) : Int)), (vn i), (.pointer (some ⟨1, i, none⟩)), (.int .u32 ((kN i : Nat) : Int)), (.int .u32 ((add32 (add32 (add32 rh (((rot32 re 6) ^^^ (rot32 re 11)) ^^^ (rot32 re 25))) ((re &&& rf) ^^^ ((not32 re) &&& rg))) (kN i) : Nat) : Int)), (vn i), (.pointer (some ⟨nb ρ2 2, i, none⟩)), (.int .u32 ((wN X i : Nat) : Int)), (.int .u32 ((add32 (add32 (add32 (add32 rh (((rot32 re 6) ^^^ (rot32 re 11)) ^^^ (rot32 re 25))) ((re &&& rf) ^^^ ((not32 re) &&& rg))) (kN i)) (wN X i) : Nat) : Int)), (.int .u32 ((add32 (add32 (add32 (add32 rh (((rot32 re 6) ^^^ (rot32 re 11)) ^^^ (rot32 re 25))) ((re &&& rf) ^^^ ((not32 re) &&& rg))) (kN i)) (wN X i) : Nat) : Int))]) (fun _ => []) (cR [[], []] <| cC (fun _ w => rotr_any re 6 (ho.2.2.2.2.1) (by decide) w) <| cR [[]] <| cC (fun _ w => rotr_any re 11 (ho.2.2.2.2.1) (by decide) w) <| cA (v := fun ρ => (.int .u32 (bits .xor .u32 ((rot32 re 6 : Nat) : Int) ((rot32 re 11 : Nat) : Int)))) (fun _ => (.int .u32 (((rot32 re 6) ^^^ (rot32 re 11) : Nat) : Int))) (fun _ => congrArg (Value.int .u32) (xor32 (rot32_lt _ (ho.2.2.2.2.1)) (rot32_lt _ (ho.2.2.2.2.1)))) <| cR [[]] <| cC (fun _ w => rotr_any re 25 (ho.2.2.2.2.1) (by decide) w) <| cA (v := fun ρ => (.int .u32 (bits .xor .u32 (((rot32 re 6) ^^^ (rot32 re 11) : Nat) : Int) ((rot32 re 25 : Nat) : Int)))) (fun _ => (.int .u32 ((((rot32 re 6) ^^^ (rot32 re 11)) ^^^ (rot32 re 25) : Nat) : Int))) (fun _ => congrArg (Value.int .u32) (xor32 (xor32_lt (rot32_lt _ (ho.2.2.2.2.1)) (rot32_lt _ (ho.2.2.2.2.1))) (rot32_lt _ (ho.2.2.2.2.1)))) <| cA (fun _ => (.int .u32 ((add32 rh (((rot32 re 6) ^^^ (rot32 re 11)) ^^^ (rot32 re 25)) : Nat) : Int))) (fun _ => congrArg (Value.int .u32) (wrap_add32 rh (((rot32 re 6) ^^^ (rot32 re 11)) ^^^ (rot32 re 25)))) <| cR [[], []] <| cA (fun _ => (.int .u32 ((re &&& rf : Nat) : Int))) (fun _ => congrArg (Value.int .u32) (and32 (ho.2.2.2.2.1) (ho.2.2.2.2.2.1))) <| cR [[]] <| cA (fun _ => (.int .u32 ((not32 re : Nat) : Int))) (fun _ => congrArg (Value.int .u32) (not_xor32 (ho.2.2.2.2.1))) <| cR [[]] <| cA (v := fun ρ => (.int .u32 (bits .and .u32 ((not32 re : Nat) : Int) ((rg : Nat) : Int)))) (fun _ => (.int .u32 (((not32 re) &&& rg : Nat) : Int))) (fun _ => congrArg (Value.int .u32) (and32 (not32_lt _) (ho.2.2.2.2.2.2.1))) <| cA (v := fun ρ => (.int .u32 (bits .xor .u32 ((re &&& rf : Nat) : Int) (((not32 re) &&& rg : Nat) : Int)))) (fun _ => (.int .u32 (((re &&& rf) ^^^ ((not32 re) &&& rg) : Nat) : Int))) (fun _ => congrArg (Value.int .u32) (xor32 (and32_lt _ (ho.2.2.2.2.1)) (and32_lt _ (not32_lt _)))) <| cA (fun _ => (.int .u32 ((add32 (add32 rh (((rot32 re 6) ^^^ (rot32 re 11)) ^^^ (rot32 re 25))) ((re &&& rf) ^^^ ((not32 re) &&& rg)) : Nat) : Int))) (fun _ => congrArg (Value.int .u32) (wrap_add32 (add32 rh (((rot32 re 6) ^^^ (rot32 re 11)) ^^^ (rot32 re 25))) ((re &&& rf) ^^^ ((not32 re) &&& rg)))) <| cR [[]] <| cX (o_sem _ (fun _ => do pure (Next.value (← Instr.indexAt 115 (pt 1) (vn i)))) (fun _ => (.pointer (some ⟨1, i, none⟩))) (fun _ => by kernel_rfl) (fun _ => by kernel_rfl) (fun _ w => run_idx_nat (n := ((i : Nat) : Int)) (i := i) Tryz.underlying115 Tryz.sizeOf41 ((by have := yT hb1; have := hi; omega)) w)) <| cX (qF (v := fun ρ => (.int .u32 ((kN i : Nat) : Int))) (fun _ _ _ hG => ld_blk (off := i) Tryz.isAgg41 (hG.facts0.now.1) ((kC_get (by have := yT hb1; have := hi; omega))))) <| cA (fun _ => (.int .u32 ((add32 (add32 (add32 rh (((rot32 re 6) ^^^ (rot32 re 11)) ^^^ (rot32 re 25))) ((re &&& rf) ^^^ ((not32 re) &&& rg))) (kN i) : Nat) : Int))) (fun _ => congrArg (Value.int .u32) (wrap_add32 (add32 (add32 rh (((rot32 re 6) ^^^ (rot32 re 11)) ^^^ (rot32 re 25))) ((re &&& rf) ^^^ ((not32 re) &&& rg))) (kN i))) <| cR [[]] <| cX (o_sem _ (fun _ => do pure (Next.value (← Instr.indexAt 115 (pt (nb ρ2 2)) (vn i)))) (fun _ => (.pointer (some ⟨nb ρ2 2, i, none⟩))) (fun _ => by kernel_rfl) (fun _ => by kernel_rfl) (fun _ w => run_idx_nat (n := ((i : Nat) : Int)) (i := i) Tryz.underlying115 Tryz.sizeOf41 ((by have := yT hb1; have := hi; omega)) w)) <| cX (o_ld _ 2 41 (fun _ => nb ρ2 2) (fun _ => i) (fun _ => (rowK .u32 64 (wN X))) 115 (0, 0) (fun _ => (.int .u32 ((wN X i : Nat) : Int))) (fun _ => by kernel_rfl) Tryz.isAgg41 (fun _ => (rowK_get (by have := yT hb1; have := hi; omega)))) <| cA (fun _ => (.int .u32 ((add32 (add32 (add32 (add32 rh (((rot32 re 6) ^^^ (rot32 re 11)) ^^^ (rot32 re 25))) ((re &&& rf) ^^^ ((not32 re) &&& rg))) (kN i)) (wN X i) : Nat) : Int))) (fun _ => congrArg (Value.int .u32) (wrap_add32 (add32 (add32 (add32 rh (((rot32 re 6) ^^^ (rot32 re 11)) ^^^ (rot32 re 25))) ((re &&& rf) ^^^ ((not32 re) &&& rg))) (kN i)) (wN X i))) <| cR [[]] <| cN) (fun _ => ?_)
  refine sS Tryz.f89 21 [2, 4, 5, 6, 7, 8, 9, 10, 11, 12, 13, 15, 16, 35] [] (fun _ => [(.int .u32 ((ra : Nat) : Int)), (.int .u32 ((rot32 ra 2 : Nat) : Int)), (.int .u32 ((ra : Nat) : Int)), (.int .u32 ((rot32 ra 13 : Nat) : Int)), (.int .u32 (((rot32 ra 2) ^^^ (rot32 ra 13) : Nat) : Int)), (.int .u32 ((ra : Nat) : Int)), (.int .u32 ((rot32 ra 22 : Nat) : Int)), (.int .u32 ((((rot32 ra 2) ^^^ (rot32 ra 13)) ^^^ (rot32 ra 22) : Nat) : Int)), (.int .u32 ((ra : Nat) : Int)), (.int .u32 ((rb : Nat) : Int)), (.int .u32 ((ra &&& rb : Nat) : Int)), (.int .u32 ((ra : Nat) : Int)), (.int .u32 ((rc : Nat) : Int)), (.int .u32 ((ra &&& rc : Nat) : Int)), (.int .u32 (((ra &&& rb) ^^^ (ra &&& rc) : Nat) : Int)), (.int .u32 ((rb : Nat) : Int)), (.int .u32 ((rc : Nat) : Int)), (.int .u32 ((rb &&& rc : Nat) : Int)), (.int .u32 ((((ra &&& rb) ^^^ (ra &&& rc)) ^^^ (rb &&& rc) : Nat) : Int)), (.int .u32 ((add32 (((rot32 ra 2) ^^^ (rot32 ra 13)) ^^^ (rot32 ra 22)) (((ra &&& rb) ^^^ (ra &&& rc)) ^^^ (rb &&& rc)) : Nat) : Int)), (.int .u32 ((add32 (((rot32 ra 2) ^^^ (rot32 ra 13)) ^^^ (rot32 ra 22)) (((ra &&& rb) ^^^ (ra &&& rc)) ^^^ (rb &&& rc)) : Nat) : Int))]) (fun _ => []) (cR [[]] <| cC (fun _ w => rotr_any ra 2 (ho.1) (by decide) w) <| cR [[]] <| cC (fun _ w => rotr_any ra 13 (ho.1) (by decide) w) <| cA (v := fun ρ => (.int .u32 (bits .xor .u32 ((rot32 ra 2 : Nat) : Int) ((rot32 ra 13 : Nat) : Int)))) (fun _ => (.int .u32 (((rot32 ra 2) ^^^ (rot32 ra 13) : Nat) : Int))) (fun _ => congrArg (Value.int .u32) (xor32 (rot32_lt _ (ho.1)) (rot32_lt _ (ho.1)))) <| cR [[]] <| cC (fun _ w => rotr_any ra 22 (ho.1) (by decide) w) <| cA (v := fun ρ => (.int .u32 (bits .xor .u32 (((rot32 ra 2) ^^^ (rot32 ra 13) : Nat) : Int) ((rot32 ra 22 : Nat) : Int)))) (fun _ => (.int .u32 ((((rot32 ra 2) ^^^ (rot32 ra 13)) ^^^ (rot32 ra 22) : Nat) : Int))) (fun _ => congrArg (Value.int .u32) (xor32 (xor32_lt (rot32_lt _ (ho.1)) (rot32_lt _ (ho.1))) (rot32_lt _ (ho.1)))) <| cR [[], []] <| cA (fun _ => (.int .u32 ((ra &&& rb : Nat) : Int))) (fun _ => congrArg (Value.int .u32) (and32 (ho.1) (ho.2.1))) <| cR [[], []] <| cA (fun _ => (.int .u32 ((ra &&& rc : Nat) : Int))) (fun _ => congrArg (Value.int .u32) (and32 (ho.1) (ho.2.2.1))) <| cA (v := fun ρ => (.int .u32 (bits .xor .u32 ((ra &&& rb : Nat) : Int) ((ra &&& rc : Nat) : Int)))) (fun _ => (.int .u32 (((ra &&& rb) ^^^ (ra &&& rc) : Nat) : Int))) (fun _ => congrArg (Value.int .u32) (xor32 (and32_lt _ (ho.1)) (and32_lt _ (ho.1)))) <| cR [[], []] <| cA (fun _ => (.int .u32 ((rb &&& rc : Nat) : Int))) (fun _ => congrArg (Value.int .u32) (and32 (ho.2.1) (ho.2.2.1))) <| cA (v := fun ρ => (.int .u32 (bits .xor .u32 (((ra &&& rb) ^^^ (ra &&& rc) : Nat) : Int) ((rb &&& rc : Nat) : Int)))) (fun _ => (.int .u32 ((((ra &&& rb) ^^^ (ra &&& rc)) ^^^ (rb &&& rc) : Nat) : Int))) (fun _ => congrArg (Value.int .u32) (xor32 (xor32_lt (and32_lt _ (ho.1)) (and32_lt _ (ho.1))) (and32_lt _ (ho.2.1)))) <| cA (fun _ => (.int .u32 ((add32 (((rot32 ra 2) ^^^ (rot32 ra 13)) ^^^ (rot32 ra 22)) (((ra &&& rb) ^^^ (ra &&& rc)) ^^^ (rb &&& rc)) : Nat) : Int))) (fun _ => congrArg (Value.int .u32) (wrap_add32 (((rot32 ra 2) ^^^ (rot32 ra 13)) ^^^ (rot32 ra 22)) (((ra &&& rb) ^^^ (ra &&& rc)) ^^^ (rb &&& rc)))) <| cR [[]] <| cN) (fun _ => ?_)
  refine rS Tryz.f89 20 [2, 4, 5, 6, 7, 8, 9, 10, 11, 12, 13, 35] [] (fun _ => [(.int .u32 ((add32 (add32 (add32 (add32 rh (((rot32 re 6) ^^^ (rot32 re 11)) ^^^ (rot32 re 25))) ((re &&& rf) ^^^ ((not32 re) &&& rg))) (kN i)) (wN X i) : Nat) : Int)), (.int .u32 ((add32 (((rot32 ra 2) ^^^ (rot32 ra 13)) ^^^ (rot32 ra 22)) (((ra &&& rb) ^^^ (ra &&& rc)) ^^^ (rb &&& rc)) : Nat) : Int)), (.int .u32 ((add32 (add32 (add32 (add32 (add32 rh (((rot32 re 6) ^^^ (rot32 re 11)) ^^^ (rot32 re 25))) ((re &&& rf) ^^^ ((not32 re) &&& rg))) (kN i)) (wN X i)) (add32 (((rot32 ra 2) ^^^ (rot32 ra 13)) ^^^ (rot32 ra 22)) (((ra &&& rb) ^^^ (ra &&& rc)) ^^^ (rb &&& rc))) : Nat) : Int)), (.int .u32 ((ra : Nat) : Int)), (.int .u32 ((rb : Nat) : Int)), (.int .u32 ((rc : Nat) : Int)), (.int .u32 ((rd : Nat) : Int)), (.int .u32 ((add32 (add32 (add32 (add32 rh (((rot32 re 6) ^^^ (rot32 re 11)) ^^^ (rot32 re 25))) ((re &&& rf) ^^^ ((not32 re) &&& rg))) (kN i)) (wN X i) : Nat) : Int)), (.int .u32 ((add32 rd (add32 (add32 (add32 (add32 rh (((rot32 re 6) ^^^ (rot32 re 11)) ^^^ (rot32 re 25))) ((re &&& rf) ^^^ ((not32 re) &&& rg))) (kN i)) (wN X i)) : Nat) : Int)), (.int .u32 ((re : Nat) : Int)), (.int .u32 ((rf : Nat) : Int)), (.int .u32 ((rg : Nat) : Int)), (.int .u32 ((add32 (add32 (add32 (add32 (add32 rh (((rot32 re 6) ^^^ (rot32 re 11)) ^^^ (rot32 re 25))) ((re &&& rf) ^^^ ((not32 re) &&& rg))) (kN i)) (wN X i)) (add32 (((rot32 ra 2) ^^^ (rot32 ra 13)) ^^^ (rot32 ra 22)) (((ra &&& rb) ^^^ (ra &&& rc)) ^^^ (rb &&& rc))) : Nat) : Int)), (.int .u32 ((ra : Nat) : Int)), (.int .u32 ((rb : Nat) : Int)), (.int .u32 ((rc : Nat) : Int)), (.int .u32 ((add32 rd (add32 (add32 (add32 (add32 rh (((rot32 re 6) ^^^ (rot32 re 11)) ^^^ (rot32 re 25))) ((re &&& rf) ^^^ ((not32 re) &&& rg))) (kN i)) (wN X i)) : Nat) : Int)), (.int .u32 ((re : Nat) : Int)), (.int .u32 ((rf : Nat) : Int)), (.int .u32 ((rg : Nat) : Int))]) (fun _ => []) (cR [[], []] <| cA (fun _ => (.int .u32 ((add32 (add32 (add32 (add32 (add32 rh (((rot32 re 6) ^^^ (rot32 re 11)) ^^^ (rot32 re 25))) ((re &&& rf) ^^^ ((not32 re) &&& rg))) (kN i)) (wN X i)) (add32 (((rot32 ra 2) ^^^ (rot32 ra 13)) ^^^ (rot32 ra 22)) (((ra &&& rb) ^^^ (ra &&& rc)) ^^^ (rb &&& rc))) : Nat) : Int))) (fun _ => congrArg (Value.int .u32) (wrap_add32 (add32 (add32 (add32 (add32 rh (((rot32 re 6) ^^^ (rot32 re 11)) ^^^ (rot32 re 25))) ((re &&& rf) ^^^ ((not32 re) &&& rg))) (kN i)) (wN X i)) (add32 (((rot32 ra 2) ^^^ (rot32 ra 13)) ^^^ (rot32 ra 22)) (((ra &&& rb) ^^^ (ra &&& rc)) ^^^ (rb &&& rc))))) <| cR [[], [], [], [], []] <| cA (fun _ => (.int .u32 ((add32 rd (add32 (add32 (add32 (add32 rh (((rot32 re 6) ^^^ (rot32 re 11)) ^^^ (rot32 re 25))) ((re &&& rf) ^^^ ((not32 re) &&& rg))) (kN i)) (wN X i)) : Nat) : Int))) (fun _ => congrArg (Value.int .u32) (wrap_add32 rd (add32 (add32 (add32 (add32 rh (((rot32 re 6) ^^^ (rot32 re 11)) ^^^ (rot32 re 25))) ((re &&& rf) ^^^ ((not32 re) &&& rg))) (kN i)) (wN X i)))) <| cR [[], [], [], [], [], [], [], [], [], [], []] <| cN) (fun _ => ?_)
  refine mt_block_n ?_
  refine mt_then ?_
  refine rS Tryz.f89 2 [2, 4, 5, 6, 7, 8, 9, 10, 11, 12, 13, 35] [] (fun _ => [(vn (i + 1)), (vn (i + 1))]) (fun _ => []) (cA (v := fun ρ => (vi (IntKind.i64.wrap (((i : Nat) : Int) + 1)))) (fun _ => (vn (i + 1))) (fun _ => congrArg (Value.int .i64) (wrap_addN i 1 (by have := yT hb1; have := hi; omega))) <| cR [[]] <| cN) (fun _ => ?_)
  exact mN (i + 1, add32 (add32 (add32 (add32 (add32 rh (((rot32 re 6) ^^^ (rot32 re 11)) ^^^ (rot32 re 25))) ((re &&& rf) ^^^ ((not32 re) &&& rg))) (kN i)) (wN X i)) (add32 (((rot32 ra 2) ^^^ (rot32 ra 13)) ^^^ (rot32 ra 22)) (((ra &&& rb) ^^^ (ra &&& rc)) ^^^ (rb &&& rc))), ra, rb, rc, add32 rd (add32 (add32 (add32 (add32 rh (((rot32 re 6) ^^^ (rot32 re 11)) ^^^ (rot32 re 25))) ((re &&& rf) ^^^ ((not32 re) &&& rg))) (kN i)) (wN X i)), re, rf, rg) (by show 64 - (i + 1) < 64 - i; have := yT hb1; have := hi; omega) (⟨(by have := yT hb1; have := hi; omega), rnds_next hr⟩) []
 ·
  rw [hb1]
  refine ok_exit ?_
  refine mt_then_e ?_
  refine mt_then_e ?_
  refine mt_block_h ?_
  refine mt_then ?_
  refine sS Tryz.f89 34 [4] [0, 1, 0] (fun _ => [(pt (nb ρ1 0)), (.int .u32 ((s0 : Nat) : Int)), (.int .u32 ((ra : Nat) : Int)), (.int .u32 ((add32 s0 ra : Nat) : Int)), (.pointer (some ⟨nb ρ1 0, 1, none⟩)), (.int .u32 ((s1 : Nat) : Int)), (.int .u32 ((rb : Nat) : Int)), (.int .u32 ((add32 s1 rb : Nat) : Int)), (.pointer (some ⟨nb ρ1 0, 2, none⟩)), (.int .u32 ((s2 : Nat) : Int)), (.int .u32 ((rc : Nat) : Int)), (.int .u32 ((add32 s2 rc : Nat) : Int)), (.pointer (some ⟨nb ρ1 0, 3, none⟩)), (.int .u32 ((s3 : Nat) : Int)), (.int .u32 ((rd : Nat) : Int)), (.int .u32 ((add32 s3 rd : Nat) : Int)), (.pointer (some ⟨nb ρ1 0, 4, none⟩)), (.int .u32 ((s4 : Nat) : Int)), (.int .u32 ((re : Nat) : Int)), (.int .u32 ((add32 s4 re : Nat) : Int)), (.pointer (some ⟨nb ρ1 0, 5, none⟩)), (.int .u32 ((s5 : Nat) : Int)), (.int .u32 ((rf : Nat) : Int)), (.int .u32 ((add32 s5 rf : Nat) : Int)), (.pointer (some ⟨nb ρ1 0, 6, none⟩)), (.int .u32 ((s6 : Nat) : Int)), (.int .u32 ((rg : Nat) : Int)), (.int .u32 ((add32 s6 rg : Nat) : Int)), (.pointer (some ⟨nb ρ1 0, 7, none⟩)), (.int .u32 ((s7 : Nat) : Int)), (.int .u32 ((rh : Nat) : Int)), (.int .u32 ((add32 s7 rh : Nat) : Int)), (.agg #[(.int .u32 ((add32 s0 ra : Nat) : Int)), (.int .u32 ((add32 s1 rb : Nat) : Int)), (.int .u32 ((add32 s2 rc : Nat) : Int)), (.int .u32 ((add32 s3 rd : Nat) : Int)), (.int .u32 ((add32 s4 re : Nat) : Int)), (.int .u32 ((add32 s5 rf : Nat) : Int)), (.int .u32 ((add32 s6 rg : Nat) : Int)), (.int .u32 ((add32 s7 rh : Nat) : Int))]), undef]) (fun _ => [(33, (pwt 1 (nb ρ1 2) (cL #[(.int .u32 ((add32 s0 ra : Nat) : Int)), (.int .u32 ((add32 s1 rb : Nat) : Int)), (.int .u32 ((add32 s2 rc : Nat) : Int)), (.int .u32 ((add32 s3 rd : Nat) : Int)), (.int .u32 ((add32 s4 re : Nat) : Int)), (.int .u32 ((add32 s5 rf : Nat) : Int)), (.int .u32 ((add32 s6 rg : Nat) : Int)), (.int .u32 ((add32 s7 rh : Nat) : Int))] 104)))]) (cR [[], [0], []] <| cA (fun _ => (.int .u32 ((add32 s0 ra : Nat) : Int))) (fun _ => congrArg (Value.int .u32) (wrap_add32 s0 ra)) <| cR [[], [0], []] <| cA (fun _ => (.int .u32 ((add32 s1 rb : Nat) : Int))) (fun _ => congrArg (Value.int .u32) (wrap_add32 s1 rb)) <| cR [[], [0], []] <| cA (fun _ => (.int .u32 ((add32 s2 rc : Nat) : Int))) (fun _ => congrArg (Value.int .u32) (wrap_add32 s2 rc)) <| cR [[], [0], []] <| cA (fun _ => (.int .u32 ((add32 s3 rd : Nat) : Int))) (fun _ => congrArg (Value.int .u32) (wrap_add32 s3 rd)) <| cR [[], [0], []] <| cA (fun _ => (.int .u32 ((add32 s4 re : Nat) : Int))) (fun _ => congrArg (Value.int .u32) (wrap_add32 s4 re)) <| cR [[], [0], []] <| cA (fun _ => (.int .u32 ((add32 s5 rf : Nat) : Int))) (fun _ => congrArg (Value.int .u32) (wrap_add32 s5 rf)) <| cR [[], [0], []] <| cA (fun _ => (.int .u32 ((add32 s6 rg : Nat) : Int))) (fun _ => congrArg (Value.int .u32) (wrap_add32 s6 rg)) <| cR [[], [0], []] <| cA (fun _ => (.int .u32 ((add32 s7 rh : Nat) : Int))) (fun _ => congrArg (Value.int .u32) (wrap_add32 s7 rh)) <| cR [[], [1]] <| cN) (fun _ => ?_)
  refine ok_ret ?_
  exact mR (v := (.agg #[(.int .u32 ((add32 s0 ra : Nat) : Int)), (.int .u32 ((add32 s1 rb : Nat) : Int)), (.int .u32 ((add32 s2 rc : Nat) : Int)), (.int .u32 ((add32 s3 rd : Nat) : Int)), (.int .u32 ((add32 s4 re : Nat) : Int)), (.int .u32 ((add32 s5 rf : Nat) : Int)), (.int .u32 ((add32 s6 rg : Nat) : Int)), (.int .u32 ((add32 s7 rh : Nat) : Int))])) (fun _ hS => ⟨congrArg Ending.returned ((by rw [cmp_end hr (show i = 64 by have := yF hb1; have := hi; omega)])), hS.bel⟩)
theorem sum_any (a : Option Addr) (c : Nat) (B : List UInt8) (h0 : 0 < B.length) (hl : B.length + 73 ≤ 140737488351232) (w0 : World) (hf0 : Bs w0 a c B) (hf1 : KbK w0) (hf2 : KbI w0) : Calls Tryz.prog 54 #[(.slice a (B).length c)] w0 (fun ε w' => ε = .returned (.agg (hB (shaN B))) ∧ Below w0.heap.size w0 w') := by
 refine Calls.of_ok (n := 48) (F := (fun w => Bs w a c B ∧ KbK w ∧ KbI w ∧ True)) Tryz.func54 rfl rfl rfl (by simp) (hf0.pers0.and (hf1.pers0.and (hf2.pers0.and persT))) ?_
 refine sS Tryz.f54 1 [0, 2] [] (fun ρ => [(pt (nb ρ 0))]) (fun ρ => [(0, (nw ρ 0 (cL (hB 0) 43)))]) (cR [[]] <| cN) (fun ρ1 => ?_)
 refine sSf Tryz.f54 8 [2, 3] [1, 0] (fun ρ => [(.slice a (B).length c), (.slice a (B).length c), (vn (B).length), (.int .u64 (((B).length : Nat) : Int)), (.slice (oa ρ 4) (padN ((B).length)).length (nb ρ 4)), (vs (nb ρ 5) 2 2), (.slice (oa ρ 6) (B ++ (padN ((B).length))).length (nb ρ 6)), (.slice (oa ρ 6) (B ++ (padN ((B).length))).length (nb ρ 6))]) (fun ρ => [(5, (nw ρ 5 (cL #[(.slice a (B).length c), (.slice (oa ρ 4) (padN ((B).length)).length (nb ρ 4))] 33)))]) (fun ρ => [(4, fun w => Fs w0 w (oa ρ 4) (nb ρ 4) (padN ((B).length))), (6, fun w => Fs w0 w (oa ρ 6) (nb ρ 6) (B ++ (padN ((B).length))))]) (fun ρ => (fun w => Bs w a c B ∧ KbK w ∧ KbI w ∧ Fs w0 w (oa ρ 4) (nb ρ 4) (padN ((B).length)) ∧ Fs w0 w (oa ρ 6) (nb ρ 6) (B ++ (padN ((B).length))) ∧ True)) (fun _ => True) (fun _ _ hF hf => ⟨⟨hF.1, hF.2.1, hF.2.2.1, hf 4, hf 6, trivial⟩, trivial⟩) (cR [[], [], []] <| cA (v := fun ρ => (.int .u64 (IntKind.u64.wrap ((((B).length : Nat) : Int))))) (fun _ => (.int .u64 (((B).length : Nat) : Int))) (fun _ => congrArg (Value.int .u64) (u64N (by have := hl; have := msg_len B; have := zeros_lt B.length; omega))) <| cX (qB (fun _ _ w _ => pad_any ((B).length) (by have := hl; have := msg_len B; have := zeros_lt B.length; omega) w )) <| cR [[]] <| cX (qB (fun ρ _ w hG => shrow2_any (nb ρ 5) a c B (oa ρ 4) (nb ρ 4) (padN ((B).length)) (by have := pad_length B.length; have := zeros_lt B.length; have := hl; omega) h0 w (Kb.of_block (hG.kn (g := nb ρ 5) (o := (cL #[(.slice a (B).length c), (.slice (oa ρ 4) (padN ((B).length)).length (nb ρ 4))] 33)) 41)) hG.facts0.now.1 ((show Fs w0 w (oa ρ 4) (nb ρ 4) (padN ((B).length)) from (hG.facts 4 rfl).now).1))) <| cR [[]] <| cN) (fun ρ2 _ => ?_)
 refine sS Tryz.f54 3 [2, 3, 4] [] (fun ρ => [(.agg #[(.int .u32 1779033703), (.int .u32 3144134277), (.int .u32 1013904242), (.int .u32 2773480762), (.int .u32 1359893119), (.int .u32 2600822924), (.int .u32 528734635), (.int .u32 1541459225)]), (pt (nb ρ 1)), undef]) (fun ρ => [(1, (nw ρ 1 (cL #[(.int .u32 0), (.int .u32 0), (.int .u32 0), (.int .u32 0), (.int .u32 0), (.int .u32 0), (.int .u32 0), (.int .u32 0)] 104))), (2, (pwt 9 (nb ρ 1) (cL #[(.int .u32 1779033703), (.int .u32 3144134277), (.int .u32 1013904242), (.int .u32 2773480762), (.int .u32 1359893119), (.int .u32 2600822924), (.int .u32 528734635), (.int .u32 1541459225)] 104)))]) (cX (qF (v := fun ρ => (.agg #[(.int .u32 1779033703), (.int .u32 3144134277), (.int .u32 1013904242), (.int .u32 2773480762), (.int .u32 1359893119), (.int .u32 2600822924), (.int .u32 528734635), (.int .u32 1541459225)])) (fun _ _ _ hG => ld_blkA (off := 0) (vs := [(.int .u32 1779033703), (.int .u32 3144134277), (.int .u32 1013904242), (.int .u32 2773480762), (.int .u32 1359893119), (.int .u32 2600822924), (.int .u32 528734635), (.int .u32 1541459225)]) Tryz.isAgg104 Tryz.sizeOf104 (hG.facts0.now.2.2.1) rfl (fun _ _ => by rw [Nat.zero_add]; simp))) <| cR [[], [9]] <| cN) (fun ρ3 => ?_)
 refine ok_seq ?_
 refine sS Tryz.f54 4 [2, 3, 4, 18, 19] [] (fun _ => [(.slice (oa ρ2 6) (B ++ (padN ((B).length))).length (nb ρ2 6)), (vn ((B ++ (padN ((B).length))).length)), (vn (((B ++ (padN ((B).length))).length) / 64)), (vi 0)]) (fun _ => []) (cR [[], []] <| cB (a := fun ρ => (vn ((B ++ (padN ((B).length))).length))) (b := fun ρ => (vi 64)) (v := fun ρ => (vn (((B ++ (padN ((B).length))).length) / 64))) .quo 3 (fun _ w => run_quoI (n := ((B ++ (padN ((B).length))).length)) (d := 64) (by decide) (by have := hl; have := msg_len B; have := zeros_lt B.length; omega) w) <| cR [[]] <| cN) (fun _ => ?_)
 refine ok_block ?_
 refine oL (σ := Nat × Nat × Nat × Nat × Nat × Nat × Nat × Nat × Nat) (fun ⟨i, _, _, _, _, _, _, _, _⟩ => [(2, (pt (nb ρ1 0))), (3, (.slice (oa ρ2 6) (B ++ (padN ((B).length))).length (nb ρ2 6))), (4, (pt (nb ρ3 1))), (18, (vn (((B ++ (padN ((B).length))).length) / 64))), (19, (vn i))]) (fun ⟨_, t0, t1, t2, t3, t4, t5, t6, t7⟩ => [(nb ρ1 0, (cL (hB 0) 43)), (nb ρ3 1, (cL #[(.int .u32 ((t0 : Nat) : Int)), (.int .u32 ((t1 : Nat) : Int)), (.int .u32 ((t2 : Nat) : Int)), (.int .u32 ((t3 : Nat) : Int)), (.int .u32 ((t4 : Nat) : Int)), (.int .u32 ((t5 : Nat) : Int)), (.int .u32 ((t6 : Nat) : Int)), (.int .u32 ((t7 : Nat) : Int))] 104))]) (fun ⟨i, _, _, _, _, _, _, _, _⟩ => (B ++ (padN ((B).length))).length / 64 - i)
   (fun ⟨i, t0, t1, t2, t3, t4, t5, t6, t7⟩ => (i ≤ (B ++ (padN ((B).length))).length / 64) ∧ (shaS (B ++ (padN ((B).length))) i = (t0, t1, t2, t3, t4, t5, t6, t7))) (0, 1779033703, 3144134277, 1013904242, 2773480762, 1359893119, 2600822924, 528734635, 1541459225) (⟨Nat.zero_le _, rfl⟩) [] ?_
 rintro ⟨i, t0, t1, t2, t3, t4, t5, t6, t7⟩ ⟨hi, hQ⟩
 change Ok Tryz.prog _ _ 48 [(2, (pt (nb ρ1 0))), (3, (.slice (oa ρ2 6) (B ++ (padN ((B).length))).length (nb ρ2 6))), (4, (pt (nb ρ3 1))), (18, (vn (((B ++ (padN ((B).length))).length) / 64))), (19, (vn i))] _ [(nb ρ1 0, (cL (hB 0) 43)), (nb ρ3 1, (cL #[(.int .u32 ((t0 : Nat) : Int)), (.int .u32 ((t1 : Nat) : Int)), (.int .u32 ((t2 : Nat) : Int)), (.int .u32 ((t3 : Nat) : Int)), (.int .u32 ((t4 : Nat) : Int)), (.int .u32 ((t5 : Nat) : Int)), (.int .u32 ((t6 : Nat) : Int)), (.int .u32 ((t7 : Nat) : Int))] 104))] (fun w => Bs w a c B ∧ KbK w ∧ KbI w ∧ Fs w0 w (oa ρ2 4) (nb ρ2 4) (padN ((B).length)) ∧ Fs w0 w (oa ρ2 6) (nb ρ2 6) (B ++ (padN ((B).length))) ∧ True)
 refine sS Tryz.f54 1 [2, 3, 4, 18, 19, 20] [] (fun _ => [(.bool (decide (((i : Nat) : Int) < ((((B ++ (padN ((B).length))).length) / 64 : Nat) : Int))))]) (fun _ => []) (cR [[]] <| cN) (fun _ => ?_)
 refine ok_seq ?_
 refine oC (decide (((i : Nat) : Int) < ((((B ++ (padN ((B).length))).length) / 64 : Nat) : Int))) (fun hb1 => ?_) (fun hb1 => ?_)
 ·
  rw [hb1]
  refine ok_skip ?_
  refine mt_then ?_
  refine ok_seq ?_
  refine ok_block ?_
  refine sS Tryz.f54 2 [2, 3, 4, 5, 18, 19] [] (fun _ => [(vn i), (vn i)]) (fun _ => []) (cR [[], []] <| cN) (fun _ => ?_)
  refine rDf Tryz.f54 [0, 0, 0, 4, 14, 30, 62, 127, 255] 9 [2, 3, 4, 18, 19] [] (fun _ => [(.agg #[(.int .u32 ((t0 : Nat) : Int)), (.int .u32 ((t1 : Nat) : Int)), (.int .u32 ((t2 : Nat) : Int)), (.int .u32 ((t3 : Nat) : Int)), (.int .u32 ((t4 : Nat) : Int)), (.int .u32 ((t5 : Nat) : Int)), (.int .u32 ((t6 : Nat) : Int)), (.int .u32 ((t7 : Nat) : Int))]), (.slice (oa ρ2 6) (B ++ (padN ((B).length))).length (nb ρ2 6)), (vn i), (vn (64 * i)), (.slice (sadr (oa ρ2 6) (64 * i) (nb ρ2 6)) (mid (B ++ (padN ((B).length))) (64 * i) ((B ++ (padN ((B).length))).length)).length ((nb ρ2 6) - (64 * i))), (.pointer (sadr (oa ρ2 6) (64 * i) (nb ρ2 6))), (.agg ((bs ((mid (B ++ (padN ((B).length))) (64 * i) ((B ++ (padN ((B).length))).length)).take 64)).toArray)), (.agg #[(.int .u32 (((cmpS (t0, t1, t2, t3, t4, t5, t6, t7) ((mid (B ++ (padN ((B).length))) (64 * i) ((B ++ (padN ((B).length))).length)).take 64)).1 : Nat) : Int)), (.int .u32 (((cmpS (t0, t1, t2, t3, t4, t5, t6, t7) ((mid (B ++ (padN ((B).length))) (64 * i) ((B ++ (padN ((B).length))).length)).take 64)).2.1 : Nat) : Int)), (.int .u32 (((cmpS (t0, t1, t2, t3, t4, t5, t6, t7) ((mid (B ++ (padN ((B).length))) (64 * i) ((B ++ (padN ((B).length))).length)).take 64)).2.2.1 : Nat) : Int)), (.int .u32 (((cmpS (t0, t1, t2, t3, t4, t5, t6, t7) ((mid (B ++ (padN ((B).length))) (64 * i) ((B ++ (padN ((B).length))).length)).take 64)).2.2.2.1 : Nat) : Int)), (.int .u32 (((cmpS (t0, t1, t2, t3, t4, t5, t6, t7) ((mid (B ++ (padN ((B).length))) (64 * i) ((B ++ (padN ((B).length))).length)).take 64)).2.2.2.2.1 : Nat) : Int)), (.int .u32 (((cmpS (t0, t1, t2, t3, t4, t5, t6, t7) ((mid (B ++ (padN ((B).length))) (64 * i) ((B ++ (padN ((B).length))).length)).take 64)).2.2.2.2.2.1 : Nat) : Int)), (.int .u32 (((cmpS (t0, t1, t2, t3, t4, t5, t6, t7) ((mid (B ++ (padN ((B).length))) (64 * i) ((B ++ (padN ((B).length))).length)).take 64)).2.2.2.2.2.2.1 : Nat) : Int)), (.int .u32 (((cmpS (t0, t1, t2, t3, t4, t5, t6, t7) ((mid (B ++ (padN ((B).length))) (64 * i) ((B ++ (padN ((B).length))).length)).take 64)).2.2.2.2.2.2.2 : Nat) : Int))]), undef]) (fun _ => [(8, (pwt 1 (nb ρ3 1) (cL #[(.int .u32 (((cmpS (t0, t1, t2, t3, t4, t5, t6, t7) ((mid (B ++ (padN ((B).length))) (64 * i) ((B ++ (padN ((B).length))).length)).take 64)).1 : Nat) : Int)), (.int .u32 (((cmpS (t0, t1, t2, t3, t4, t5, t6, t7) ((mid (B ++ (padN ((B).length))) (64 * i) ((B ++ (padN ((B).length))).length)).take 64)).2.1 : Nat) : Int)), (.int .u32 (((cmpS (t0, t1, t2, t3, t4, t5, t6, t7) ((mid (B ++ (padN ((B).length))) (64 * i) ((B ++ (padN ((B).length))).length)).take 64)).2.2.1 : Nat) : Int)), (.int .u32 (((cmpS (t0, t1, t2, t3, t4, t5, t6, t7) ((mid (B ++ (padN ((B).length))) (64 * i) ((B ++ (padN ((B).length))).length)).take 64)).2.2.2.1 : Nat) : Int)), (.int .u32 (((cmpS (t0, t1, t2, t3, t4, t5, t6, t7) ((mid (B ++ (padN ((B).length))) (64 * i) ((B ++ (padN ((B).length))).length)).take 64)).2.2.2.2.1 : Nat) : Int)), (.int .u32 (((cmpS (t0, t1, t2, t3, t4, t5, t6, t7) ((mid (B ++ (padN ((B).length))) (64 * i) ((B ++ (padN ((B).length))).length)).take 64)).2.2.2.2.2.1 : Nat) : Int)), (.int .u32 (((cmpS (t0, t1, t2, t3, t4, t5, t6, t7) ((mid (B ++ (padN ((B).length))) (64 * i) ((B ++ (padN ((B).length))).length)).take 64)).2.2.2.2.2.2.1 : Nat) : Int)), (.int .u32 (((cmpS (t0, t1, t2, t3, t4, t5, t6, t7) ((mid (B ++ (padN ((B).length))) (64 * i) ((B ++ (padN ((B).length))).length)).take 64)).2.2.2.2.2.2.2 : Nat) : Int))] 104)))]) (fun _ => [(4, fun w => Bs w (sadr (oa ρ2 6) (64 * i) (nb ρ2 6)) ((nb ρ2 6) - (64 * i)) (mid (B ++ (padN ((B).length))) (64 * i) ((B ++ (padN ((B).length))).length)))]) (fun _ => (fun w => Bs w a c B ∧ KbK w ∧ KbI w ∧ Fs w0 w (oa ρ2 4) (nb ρ2 4) (padN ((B).length)) ∧ Fs w0 w (oa ρ2 6) (nb ρ2 6) (B ++ (padN ((B).length))) ∧ Bs w (sadr (oa ρ2 6) (64 * i) (nb ρ2 6)) ((nb ρ2 6) - (64 * i)) (mid (B ++ (padN ((B).length))) (64 * i) ((B ++ (padN ((B).length))).length)) ∧ True)) (fun _ => True) (fun _ _ hF hf => ⟨⟨hF.1, hF.2.1, hF.2.2.1, hF.2.2.2.1, hF.2.2.2.2.1, hf 4, trivial⟩, trivial⟩) (cR [[1], [], []] <| cA (v := fun ρ => (vi (IntKind.i64.wrap (64 * ((i : Nat) : Int))))) (fun _ => (vn (64 * i))) (fun _ => congrArg (Value.int .i64) (wrap_mulN 64 i (by have := yT hb1; have := hl; have := msg_len B; have := zeros_lt B.length; have := hi; omega))) <| cX (o_semF _ (fun _ => do pure (Next.value (← Instr.sliceAt 33 (.slice (oa ρ2 6) (B ++ (padN ((B).length))).length (nb ρ2 6)) (some (vn (64 * i))) none none))) (fun _ => (.slice (sadr (oa ρ2 6) (64 * i) (nb ρ2 6)) (mid (B ++ (padN ((B).length))) (64 * i) ((B ++ (padN ((B).length))).length)).length ((nb ρ2 6) - (64 * i)))) (fun _ => (by kernel_rfl)) (fun _ => (by kernel_rfl)) (fun _ _ _ hG => slice_bytes (l := 64 * i) (k := (B ++ (padN ((B).length))).length) Tryz.underlying33 u8i hG.facts0.now.2.2.2.2.1.1 rfl (Or.inr (congrArg (fun z => some (Value.int .i64 z)) (rfl))) (Or.inl ⟨rfl, rfl⟩) ((by have := yT hb1; have := hl; have := msg_len B; have := zeros_lt B.length; have := hi; omega)) ((Nat.le_refl _))) (fun _ _ w hG => (hG.facts0).mono (fun _ hF => (hF).2.2.2.2.1.1.mid ((by have := yT hb1; have := hl; have := msg_len B; have := zeros_lt B.length; have := hi; omega)) ((Nat.le_refl _))))) <| cX (o_semF _ (fun _ => do pure (Next.value (← Instr.arrayAt 106 (.slice (sadr (oa ρ2 6) (64 * i) (nb ρ2 6)) (mid (B ++ (padN ((B).length))) (64 * i) ((B ++ (padN ((B).length))).length)).length ((nb ρ2 6) - (64 * i)))))) (fun _ => (.pointer (sadr (oa ρ2 6) (64 * i) (nb ρ2 6)))) (fun _ => (by kernel_rfl)) (fun _ => (by kernel_rfl)) (fun _ _ _ _ => arr_bytes Tryz.underlying106 ((by rw [mid_length _ _ _ (Nat.le_refl _)]; have := yT hb1; have := hl; have := msg_len B; have := zeros_lt B.length; have := hi; omega))) (fun _ _ _ _ => persT)) <| cX (qF (fun _ _ w hG => ld_arr Tryz.isAgg106 Tryz.sizeOf106 (show Bs w (sadr (oa ρ2 6) (64 * i) (nb ρ2 6)) ((nb ρ2 6) - (64 * i)) (mid (B ++ (padN ((B).length))) (64 * i) ((B ++ (padN ((B).length))).length)) from (hG.facts 4 rfl).now) ((by rw [mid_length _ _ _ (Nat.le_refl _)]; have := yT hb1; have := hl; have := msg_len B; have := zeros_lt B.length; have := hi; omega)) (by decide))) <| cX (qC (fun _ _ w hG => compress_any t0 t1 t2 t3 t4 t5 t6 t7 ((mid (B ++ (padN ((B).length))) (64 * i) ((B ++ (padN ((B).length))).length)).take 64) (hQ ▸ shaS_ok (B ++ (padN ((B).length))) i) (by rw [List.length_take, mid_length _ _ _ (Nat.le_refl _)]; have := yT hb1; have := hl; have := msg_len B; have := zeros_lt B.length; have := hi; omega) w hG.facts0.now.2.1)) <| cR [[1]] <| cN) (fun _ _ => ?_)
  refine mt_block_n ?_
  refine mt_then ?_
  refine rS Tryz.f54 2 [2, 3, 4, 18, 19] [] (fun _ => [(vn (i + 1)), (vn (i + 1))]) (fun _ => []) (cA (v := fun ρ => (vi (IntKind.i64.wrap (((i : Nat) : Int) + 1)))) (fun _ => (vn (i + 1))) (fun _ => congrArg (Value.int .i64) (wrap_addN i 1 (by have := yT hb1; have := hl; have := msg_len B; have := zeros_lt B.length; have := hi; omega))) <| cR [[]] <| cN) (fun _ => ?_)
  refine mt_facts (fun w => Bs w a c B ∧ KbK w ∧ KbI w ∧ Fs w0 w (oa ρ2 4) (nb ρ2 4) (padN ((B).length)) ∧ Fs w0 w (oa ρ2 6) (nb ρ2 6) (B ++ (padN ((B).length))) ∧ True) (fun w hF => ⟨hF.1, hF.2.1, hF.2.2.1, hF.2.2.2.1, hF.2.2.2.2.1, trivial⟩) ?_
  exact mN (i + 1, (cmpS (t0, t1, t2, t3, t4, t5, t6, t7) ((mid (B ++ (padN ((B).length))) (64 * i) ((B ++ (padN ((B).length))).length)).take 64)).1, (cmpS (t0, t1, t2, t3, t4, t5, t6, t7) ((mid (B ++ (padN ((B).length))) (64 * i) ((B ++ (padN ((B).length))).length)).take 64)).2.1, (cmpS (t0, t1, t2, t3, t4, t5, t6, t7) ((mid (B ++ (padN ((B).length))) (64 * i) ((B ++ (padN ((B).length))).length)).take 64)).2.2.1, (cmpS (t0, t1, t2, t3, t4, t5, t6, t7) ((mid (B ++ (padN ((B).length))) (64 * i) ((B ++ (padN ((B).length))).length)).take 64)).2.2.2.1, (cmpS (t0, t1, t2, t3, t4, t5, t6, t7) ((mid (B ++ (padN ((B).length))) (64 * i) ((B ++ (padN ((B).length))).length)).take 64)).2.2.2.2.1, (cmpS (t0, t1, t2, t3, t4, t5, t6, t7) ((mid (B ++ (padN ((B).length))) (64 * i) ((B ++ (padN ((B).length))).length)).take 64)).2.2.2.2.2.1, (cmpS (t0, t1, t2, t3, t4, t5, t6, t7) ((mid (B ++ (padN ((B).length))) (64 * i) ((B ++ (padN ((B).length))).length)).take 64)).2.2.2.2.2.2.1, (cmpS (t0, t1, t2, t3, t4, t5, t6, t7) ((mid (B ++ (padN ((B).length))) (64 * i) ((B ++ (padN ((B).length))).length)).take 64)).2.2.2.2.2.2.2) (by show (B ++ (padN ((B).length))).length / 64 - (i + 1) < (B ++ (padN ((B).length))).length / 64 - i; have := yT hb1; have := hl; have := msg_len B; have := zeros_lt B.length; have := hi; omega) (⟨(by have := yT hb1; have := hl; have := msg_len B; have := zeros_lt B.length; have := hi; omega), sha_next hQ (by have := yT hb1; have := hl; have := msg_len B; have := zeros_lt B.length; have := hi; omega)⟩) []
 ·
  rw [hb1]
  refine ok_exit ?_
  refine mt_then_e ?_
  refine mt_then_e ?_
  refine mt_block_h ?_
  refine mt_then ?_
  refine sS Tryz.f54 1 [2, 4, 6] [] (fun ρ => [(pt (nb ρ 0))]) (fun ρ => [(0, (nw ρ 0 (cL (hB 0) 43)))]) (cR [[]] <| cN) (fun ρ9 => ?_)
  refine ok_seq ?_
  refine sS Tryz.f54 1 [2, 4, 6, 31] [] (fun _ => [(vi 0)]) (fun _ => []) (cR [[]] <| cN) (fun _ => ?_)
  refine ok_block ?_
  refine oL (σ := Nat × (Array Value)) (fun ⟨m, _⟩ => [(2, (pt (nb ρ1 0))), (4, (pt (nb ρ3 1))), (6, (pt (nb ρ9 0))), (31, (vn m))]) (fun ⟨_, C⟩ => [(nb ρ1 0, (cL (hB 0) 43)), (nb ρ3 1, (cL #[(.int .u32 ((t0 : Nat) : Int)), (.int .u32 ((t1 : Nat) : Int)), (.int .u32 ((t2 : Nat) : Int)), (.int .u32 ((t3 : Nat) : Int)), (.int .u32 ((t4 : Nat) : Int)), (.int .u32 ((t5 : Nat) : Int)), (.int .u32 ((t6 : Nat) : Int)), (.int .u32 ((t7 : Nat) : Int))] 104)), (nb ρ9 0, (cL C 43))]) (fun ⟨m, _⟩ => 32 - m)
    (fun ⟨m, C⟩ => (m ≤ 32) ∧ (C = rowK .u8 32 (dgf (t0, t1, t2, t3, t4, t5, t6, t7) (m)))) (0, hB 0) (⟨by decide, hB0_row (t0, t1, t2, t3, t4, t5, t6, t7)⟩) [] ?_
  rintro ⟨m, C⟩ ⟨hm, hC⟩
  change Ok Tryz.prog _ _ 48 [(2, (pt (nb ρ1 0))), (4, (pt (nb ρ3 1))), (6, (pt (nb ρ9 0))), (31, (vn m))] _ [(nb ρ1 0, (cL (hB 0) 43)), (nb ρ3 1, (cL #[(.int .u32 ((t0 : Nat) : Int)), (.int .u32 ((t1 : Nat) : Int)), (.int .u32 ((t2 : Nat) : Int)), (.int .u32 ((t3 : Nat) : Int)), (.int .u32 ((t4 : Nat) : Int)), (.int .u32 ((t5 : Nat) : Int)), (.int .u32 ((t6 : Nat) : Int)), (.int .u32 ((t7 : Nat) : Int))] 104)), (nb ρ9 0, (cL C 43))] (fun w => Bs w a c B ∧ KbK w ∧ KbI w ∧ Fs w0 w (oa ρ2 4) (nb ρ2 4) (padN ((B).length)) ∧ Fs w0 w (oa ρ2 6) (nb ρ2 6) (B ++ (padN ((B).length))) ∧ True)
  refine sS Tryz.f54 1 [2, 4, 6, 31, 32] [] (fun _ => [(.bool (decide (((m : Nat) : Int) < 32)))]) (fun _ => []) (cR [[]] <| cN) (fun _ => ?_)
  refine ok_seq ?_
  refine oC (decide (((m : Nat) : Int) < 32)) (fun hb2 => ?_) (fun hb2 => ?_)
  ·
   rw [hb2]
   refine ok_skip ?_
   refine mt_then ?_
   refine ok_seq ?_
   refine ok_block ?_
   refine sS Tryz.f54 2 [2, 4, 6, 7, 31] [] (fun _ => [(vn m), (vn m)]) (fun _ => []) (cR [[], []] <| cN) (fun _ => ?_)
   refine rS Tryz.f54 13 [2, 4, 6, 31] [] (fun _ => [(vn m), (vn m), (vn (m / 4)), (.pointer (some ⟨nb ρ3 1, m / 4, none⟩)), (.int .u32 ((sel8 (t0, t1, t2, t3, t4, t5, t6, t7) (m / 4) : Nat) : Int)), (vn m), (vn (m % 4)), (vn ((m % 4) * 8)), (vn (24 - m % 4 * 8)), (.int .u32 ((sel8 (t0, t1, t2, t3, t4, t5, t6, t7) (m / 4) / 2 ^ (24 - m % 4 * 8) : Nat) : Int)), (.int .u8 ((sel8 (t0, t1, t2, t3, t4, t5, t6, t7) (m / 4) / 2 ^ (24 - m % 4 * 8) % 256 : Nat) : Int)), (.pointer (some ⟨nb ρ9 0, m, none⟩)), undef]) (fun _ => [(12, (pwt 2 (nb ρ9 0) (cL (C.setIfInBounds m (.int .u8 ((sel8 (t0, t1, t2, t3, t4, t5, t6, t7) (m / 4) / 2 ^ (24 - m % 4 * 8) % 256 : Nat) : Int))) 43)))]) (cR [[], []] <| cB (a := fun ρ => (vn m)) (b := fun ρ => (vi 4)) (v := fun ρ => (vn (m / 4))) .quo 3 (fun _ w => run_quoI (n := m) (d := 4) (by decide) (by have := yF hb1; have := yT hb2; have := hl; have := msg_len B; have := zeros_lt B.length; have := hi; have := hm; omega) w) <| cX (o_sem _ (fun _ => do pure (Next.value (← Instr.indexAt 104 (pt (nb ρ3 1)) (vn (m / 4))))) (fun _ => (.pointer (some ⟨nb ρ3 1, m / 4, none⟩))) (fun _ => by kernel_rfl) (fun _ => by kernel_rfl) (fun _ w => run_idx_nat (n := ((m / 4 : Nat) : Int)) (i := m / 4) Tryz.underlying104 Tryz.sizeOf41 ((by have := yF hb1; have := yT hb2; have := hl; have := msg_len B; have := zeros_lt B.length; have := hi; have := hm; omega)) w)) <| cX (o_ld _ 1 41 (fun _ => nb ρ3 1) (fun _ => m / 4) (fun _ => #[(.int .u32 ((t0 : Nat) : Int)), (.int .u32 ((t1 : Nat) : Int)), (.int .u32 ((t2 : Nat) : Int)), (.int .u32 ((t3 : Nat) : Int)), (.int .u32 ((t4 : Nat) : Int)), (.int .u32 ((t5 : Nat) : Int)), (.int .u32 ((t6 : Nat) : Int)), (.int .u32 ((t7 : Nat) : Int))]) 104 (0, 0) (fun _ => (.int .u32 ((sel8 (t0, t1, t2, t3, t4, t5, t6, t7) (m / 4) : Nat) : Int))) (fun _ => by kernel_rfl) Tryz.isAgg41 (fun _ => sel_get (by have := yF hb1; have := yT hb2; have := hl; have := msg_len B; have := zeros_lt B.length; have := hi; have := hm; omega))) <| cR [[]] <| cB (a := fun ρ => (vn m)) (b := fun ρ => (vi 4)) (v := fun ρ => (vn (m % 4))) .rem 3 (fun _ w => run_remU (k := .i64) (n := m) (d := 4) (by decide) w) <| cA (v := fun ρ => (vi (IntKind.i64.wrap (((m % 4 : Nat) : Int) * 8)))) (fun _ => (vn ((m % 4) * 8))) (fun _ => congrArg (Value.int .i64) (wrap_mulN (m % 4) 8 (by have := yF hb1; have := yT hb2; have := hl; have := msg_len B; have := zeros_lt B.length; have := hi; have := hm; omega))) <| cA (v := fun ρ => (vi (IntKind.i64.wrap (24 - (((m % 4) * 8 : Nat) : Int))))) (fun _ => (vn (24 - m % 4 * 8))) (fun _ => congrArg (Value.int .i64) ((i64N (by have := yF hb1; have := yT hb2; have := hl; have := msg_len B; have := zeros_lt B.length; have := hi; have := hm; omega)).trans (by omega))) <| cB (a := fun ρ => (.int .u32 ((sel8 (t0, t1, t2, t3, t4, t5, t6, t7) (m / 4) : Nat) : Int))) (b := fun ρ => (vn (24 - m % 4 * 8))) (v := fun ρ => (.int .u32 ((sel8 (t0, t1, t2, t3, t4, t5, t6, t7) (m / 4) / 2 ^ (24 - m % 4 * 8) : Nat) : Int))) .shr 41 (fun _ w => run_shrU (k := .u32) (x := sel8 (t0, t1, t2, t3, t4, t5, t6, t7) (m / 4)) (c := 24 - m % 4 * 8) (sel8_lt (hQ ▸ shaS_ok _ i) _) w) <| cA (fun _ => (.int .u8 ((sel8 (t0, t1, t2, t3, t4, t5, t6, t7) (m / 4) / 2 ^ (24 - m % 4 * 8) % 256 : Nat) : Int))) (fun _ => congrArg (Value.int .u8) (u8M (sel8 (t0, t1, t2, t3, t4, t5, t6, t7) (m / 4) / 2 ^ (24 - m % 4 * 8)))) <| cX (o_sem _ (fun _ => do pure (Next.value (← Instr.indexAt 43 (pt (nb ρ9 0)) (vn m)))) (fun _ => (.pointer (some ⟨nb ρ9 0, m, none⟩))) (fun _ => by kernel_rfl) (fun _ => by kernel_rfl) (fun _ w => run_idx_nat (n := ((m : Nat) : Int)) (i := m) Tryz.underlying43 Tryz.sizeOf5 ((by have := yF hb1; have := yT hb2; have := hl; have := msg_len B; have := zeros_lt B.length; have := hi; have := hm; omega)) w)) <| cX (o_st _ 2 5 (fun _ => nb ρ9 0) (fun _ => m) (fun _ => C) (fun _ => (C.setIfInBounds m (.int .u8 ((sel8 (t0, t1, t2, t3, t4, t5, t6, t7) (m / 4) / 2 ^ (24 - m % 4 * 8) % 256 : Nat) : Int)))) 43 (fun _ => (.int .u8 ((sel8 (t0, t1, t2, t3, t4, t5, t6, t7) (m / 4) / 2 ^ (24 - m % 4 * 8) % 256 : Nat) : Int))) (fun _ => by kernel_rfl) Tryz.sizeOf5 (fun _ => rfl) (fun _ => (by rw [hC, rowK_size]; have := yF hb1; have := yT hb2; have := hl; have := msg_len B; have := zeros_lt B.length; have := hi; have := hm; omega)) (fun _ => rfl)) <| cN) (fun _ => ?_)
   refine mt_block_n ?_
   refine mt_then ?_
   refine rS Tryz.f54 2 [2, 4, 6, 31] [] (fun _ => [(vn (m + 1)), (vn (m + 1))]) (fun _ => []) (cA (v := fun ρ => (vi (IntKind.i64.wrap (((m : Nat) : Int) + 1)))) (fun _ => (vn (m + 1))) (fun _ => congrArg (Value.int .i64) (wrap_addN m 1 (by have := yF hb1; have := yT hb2; have := hl; have := msg_len B; have := zeros_lt B.length; have := hi; have := hm; omega))) <| cR [[]] <| cN) (fun _ => ?_)
   exact mN (m + 1, C.setIfInBounds m (.int .u8 ((sel8 (t0, t1, t2, t3, t4, t5, t6, t7) (m / 4) / 2 ^ (24 - m % 4 * 8) % 256 : Nat) : Int))) (by show 32 - (m + 1) < 32 - m; have := yF hb1; have := yT hb2; have := hl; have := msg_len B; have := zeros_lt B.length; have := hi; have := hm; omega) (⟨(by have := yF hb1; have := yT hb2; have := hl; have := msg_len B; have := zeros_lt B.length; have := hi; have := hm; omega), by rw [hC]; exact dgf_set rfl⟩) []
  ·
   rw [hb2]
   refine ok_exit ?_
   refine mt_then_e ?_
   refine mt_then_e ?_
   refine mt_block_h ?_
   rw [hC]
   refine mt_then ?_
   refine sS Tryz.f54 2 [2] [1, 0, 0] (fun _ => [(.agg (rowK .u8 32 (dgf (t0, t1, t2, t3, t4, t5, t6, t7) (m)))), undef]) (fun _ => [(1, (pwt 0 (nb ρ1 0) (cL (rowK .u8 32 (dgf (t0, t1, t2, t3, t4, t5, t6, t7) (m))) 43)))]) (cX (qF (fun _ _ _ hG => ld_whole Tryz.isAgg43 Tryz.sizeOf43 (hG.kn (g := nb ρ9 0) (o := (cL (rowK .u8 32 (dgf (t0, t1, t2, t3, t4, t5, t6, t7) (m))) 43)) 2) ((rowK_size _ _ _)))) <| cR [[0]] <| cN) (fun _ => ?_)
   refine ok_ret ?_
   exact mR (v := (.agg (rowK .u8 32 (dgf (t0, t1, t2, t3, t4, t5, t6, t7) (m))))) (fun _ hS => ⟨congrArg Ending.returned (congrArg Value.agg ((dgf_end (by have := yF hb1; have := yF hb2; have := hl; have := msg_len B; have := zeros_lt B.length; have := hi; have := hm; omega)).trans (congrArg hB (sha_end hQ (by have := yF hb1; have := yF hb2; have := hl; have := msg_len B; have := zeros_lt B.length; have := hi; have := hm; omega))))), hS.bel⟩)
theorem tagged_any (T : List UInt8) (a : Option Addr) (c : Nat) (B : List UInt8) (hT : 0 < T.length ∧ T.length ≤ 1000) (hl : B.length + 200 ≤ 140737488351232) (w0 : World) (hf0 : Bs w0 a c B) (hf1 : KbK w0) (hf2 : KbI w0) : Calls Tryz.prog 28 #[(.string (strB T)), (.slice a (B).length c)] w0 (fun ε w' => ε = .returned (.agg (hB (tagN T B))) ∧ Below w0.heap.size w0 w') := by
 refine Calls.of_ok (n := 15) (F := (fun w => Bs w a c B ∧ KbK w ∧ KbI w ∧ True)) Tryz.func28 rfl rfl rfl (by simp) (hf0.pers0.and (hf1.pers0.and (hf2.pers0.and persT))) ?_
 refine sS Tryz.f28 1 [0, 1, 4] [] (fun ρ => [(pt (nb ρ 0))]) (fun ρ => [(0, (nw ρ 0 (cL (hB 0) 43)))]) (cR [[]] <| cN) (fun ρ1 => ?_)
 refine sSf Tryz.f28 5 [1, 4, 5] [] (fun ρ => [(.string (strB T)), (.slice (oa ρ 1) (T).length (nb ρ 1)), (.agg (hB (shaN T))), (pt (nb ρ 3)), undef]) (fun ρ => [(3, (nw ρ 3 (cL (hB 0) 43))), (4, (pwt 25 (nb ρ 3) (cL (hB (shaN T)) 43)))]) (fun ρ => [(1, fun w => Fs w0 w (oa ρ 1) (nb ρ 1) T)]) (fun ρ => (fun w => Bs w a c B ∧ KbK w ∧ KbI w ∧ Fs w0 w (oa ρ 1) (nb ρ 1) T ∧ True)) (fun _ => True) (fun _ _ hF hf => ⟨⟨hF.1, hF.2.1, hF.2.2.1, hf 1, trivial⟩, trivial⟩) (cR [[]] <| cX (o_newF _ (fun _ => do pure (Next.value (← convert 9 33 (.string (strB T))))) (fun _ α κ => (.slice α (T).length κ)) (fun _ => T) (fun _ _ => (by kernel_rfl)) (fun _ => (by kernel_rfl)) (fun _ _ => (by kernel_rfl)) (fun _ _ w _ => bytes_str Tryz.underlying9 Tryz.underlying33 Tryz.underlying5 T (by have := hT; omega) w)) <| cX (qC (fun ρ _ w hG => sum_any (oa ρ 1) (nb ρ 1) T hT.1 (by have := hT; omega) w ((show Fs w0 w (oa ρ 1) (nb ρ 1) T from (hG.facts 1 rfl).now).1) hG.facts0.now.2.1 hG.facts0.now.2.2.1)) <| cR [[], [25]] <| cN) (fun ρ2 _ => ?_)
 refine sDf Tryz.f28 [0, 0, 0, 7, 15, 31, 63] 7 [4] [1, 0, 0] (fun ρ => [(vs (nb ρ2 3) (hL (shaN T)).length 32), (vs (nb ρ2 3) (hL (shaN T)).length 32), (.slice a (B).length c), (vs (nb ρ 3) 3 3), (.slice (oa ρ 4) (((hL (shaN T)) ++ (hL (shaN T))) ++ B).length (nb ρ 4)), (.agg (hB (shaN (((hL (shaN T)) ++ (hL (shaN T))) ++ B)))), undef]) (fun ρ => [(3, (nw ρ 3 (cL #[(vs (nb ρ2 3) (hL (shaN T)).length 32), (vs (nb ρ2 3) (hL (shaN T)).length 32), (.slice a (B).length c)] 33))), (6, (pwt 0 (nb ρ1 0) (cL (hB (shaN (((hL (shaN T)) ++ (hL (shaN T))) ++ B))) 43)))]) (fun ρ => [(4, fun w => Fs w0 w (oa ρ 4) (nb ρ 4) (((hL (shaN T)) ++ (hL (shaN T))) ++ B))]) (fun ρ => (fun w => Bs w a c B ∧ KbK w ∧ KbI w ∧ Fs w0 w (oa ρ2 1) (nb ρ2 1) T ∧ Fs w0 w (oa ρ 4) (nb ρ 4) (((hL (shaN T)) ++ (hL (shaN T))) ++ B) ∧ True)) (fun _ => True) (fun _ _ hF hf => ⟨⟨hF.1, hF.2.1, hF.2.2.1, hF.2.2.2.1, hf 4, trivial⟩, trivial⟩) (cR [[], [], [], []] <| cX (qB (fun ρ _ w hG => shrow3_any (nb ρ 3) (some ⟨nb ρ2 3, 0, none⟩) 32 (hL (shaN T)) (some ⟨nb ρ2 3, 0, none⟩) 32 (hL (shaN T)) a c B (by simp only [hL_length]; have := hl; omega) (by rw [hL_length]; decide) w (Kb.of_block (hG.kn (g := nb ρ 3) (o := (cL #[(vs (nb ρ2 3) (hL (shaN T)).length 32), (vs (nb ρ2 3) (hL (shaN T)).length 32), (.slice a (B).length c)] 33)) 26)) (Bs.of_hd (c := 32) (hG.kn (g := nb ρ2 3) (o := (cL (hB (shaN T)) 43)) 1) (hd_hB _) (Nat.le_refl _) (Nat.le_of_ble_eq_true rfl)) (Bs.of_hd (c := 32) (hG.kn (g := nb ρ2 3) (o := (cL (hB (shaN T)) 43)) 1) (hd_hB _) (Nat.le_refl _) (Nat.le_of_ble_eq_true rfl)) hG.facts0.now.1)) <| cX (qC (fun ρ _ w hG => sum_any (oa ρ 4) (nb ρ 4) (((hL (shaN T)) ++ (hL (shaN T))) ++ B) (by simp only [List.length_append, hL_length]; omega) (by simp only [List.length_append, hL_length]; have := hl; omega) w ((show Fs w0 w (oa ρ 4) (nb ρ 4) (((hL (shaN T)) ++ (hL (shaN T))) ++ B) from (hG.facts 4 rfl).now).1) hG.facts0.now.2.1 hG.facts0.now.2.2.1)) <| cR [[0]] <| cN) (fun _ _ => ?_)
 refine ok_ret ?_
 exact mR (v := (.agg (hB (shaN (((hL (shaN T)) ++ (hL (shaN T))) ++ B))))) (fun _ hS => ⟨congrArg Ending.returned (congrArg (fun z => Value.agg (hB z)) (by rw [tagN, hL_sha])), hS.bel⟩)
section
variable {P : Program}
end
theorem dkids_any (z : Int) (w0 : World) : Calls Tryz.prog 15 #[(vi z)] w0 (fun ε w' => ε = .returned (vi (kdN z)) ∧ Below w0.heap.size w0 w') := by
 refine Calls.of_ok (n := 13) (F := (fun _ => True)) Tryz.func15 rfl rfl rfl (by simp) (persTrue (fun _ => trivial)) ?_
 refine sS Tryz.f15 1 [0, 2] [] (fun _ => [(vi 0)]) (fun _ => []) (cR [[]] <| cN) (fun _ => ?_)
 refine ok_seq ?_
 refine sS Tryz.f15 1 [2, 3] [] (fun _ => [(vi z)]) (fun _ => []) (cR [[]] <| cN) (fun _ => ?_)
 refine ok_block ?_
 refine ok_seq ?_
 refine sS Tryz.f15 2 [2, 3, 4] [] (fun _ => [(.bool (z == 1)), (.bool (z == 1))]) (fun _ => []) (cR [[], []] <| cN) (fun _ => ?_)
 refine oC (z == 1) (fun hb1 => ?_) (fun hb1 => ?_)
 ·
  rw [hb1]
  refine ok_skip ?_
  refine mt_then ?_
  refine oY ?_
  refine sS Tryz.f15 1 [2] [] (fun _ => [(vi 0)]) (fun _ => []) (cR [[]] <| cN) (fun _ => ?_)
  refine ok_ret ?_
  refine mt_block_r ?_
  refine mt_then_r ?_
  exact mR (v := (vi 0)) (fun _ hS => ⟨congrArg (fun x => Ending.returned (vi x)) (kd_1 (by have := eqI hb1; omega)), hS.bel⟩)
 ·
  rw [hb1]
  refine rS Tryz.f15 2 [2, 3, 4] [] (fun _ => [(.bool (z == 2)), (.bool (z == 2))]) (fun _ => []) (cR [[], []] <| cN) (fun _ => ?_)
  refine mt_then ?_
  refine oC (z == 2) (fun hb2 => ?_) (fun hb2 => ?_)
  ·
   rw [hb2]
   refine sS Tryz.f15 1 [2] [] (fun _ => [(vi 0)]) (fun _ => []) (cR [[]] <| cN) (fun _ => ?_)
   refine ok_ret ?_
   refine mt_block_r ?_
   refine mt_then_r ?_
   exact mR (v := (vi 0)) (fun _ hS => ⟨congrArg (fun x => Ending.returned (vi x)) (kd_1 (by have := neI hb1; have := eqI hb2; omega)), hS.bel⟩)
  ·
   rw [hb2]
   refine ok_seq ?_
   refine sS Tryz.f15 2 [2, 3, 7] [] (fun _ => [(.bool (z == 3)), (.bool (z == 3))]) (fun _ => []) (cR [[], []] <| cN) (fun _ => ?_)
   refine oC (z == 3) (fun hb3 => ?_) (fun hb3 => ?_)
   ·
    rw [hb3]
    refine ok_skip ?_
    refine mt_then ?_
    refine oY ?_
    refine sS Tryz.f15 1 [2] [] (fun _ => [(vi 1)]) (fun _ => []) (cR [[]] <| cN) (fun _ => ?_)
    refine ok_ret ?_
    refine mt_block_r ?_
    refine mt_then_r ?_
    exact mR (v := (vi 1)) (fun _ hS => ⟨congrArg (fun x => Ending.returned (vi x)) (kd_3 (by have := neI hb1; have := neI hb2; have := eqI hb3; omega)), hS.bel⟩)
   ·
    rw [hb3]
    refine sS Tryz.f15 2 [2, 3, 7] [] (fun _ => [(.bool (z == 4)), (.bool (z == 4))]) (fun _ => []) (cR [[], []] <| cN) (fun _ => ?_)
    refine oC (z == 4) (fun hb4 => ?_) (fun hb4 => ?_)
    ·
     rw [hb4]
     refine ok_skip ?_
     refine mt_then ?_
     refine oY ?_
     refine sS Tryz.f15 1 [2] [] (fun _ => [(vi 1)]) (fun _ => []) (cR [[]] <| cN) (fun _ => ?_)
     refine ok_ret ?_
     refine mt_block_r ?_
     refine mt_then_r ?_
     exact mR (v := (vi 1)) (fun _ hS => ⟨congrArg (fun x => Ending.returned (vi x)) (kd_3 (by have := neI hb1; have := neI hb2; have := neI hb3; have := eqI hb4; omega)), hS.bel⟩)
    ·
     rw [hb4]
     refine rS Tryz.f15 2 [2, 3, 7] [] (fun _ => [(.bool (z == 5)), (.bool (z == 5))]) (fun _ => []) (cR [[], []] <| cN) (fun _ => ?_)
     refine mt_then ?_
     refine oC (z == 5) (fun hb5 => ?_) (fun hb5 => ?_)
     ·
      rw [hb5]
      refine sS Tryz.f15 1 [2] [] (fun _ => [(vi 1)]) (fun _ => []) (cR [[]] <| cN) (fun _ => ?_)
      refine ok_ret ?_
      refine mt_block_r ?_
      refine mt_then_r ?_
      exact mR (v := (vi 1)) (fun _ hS => ⟨congrArg (fun x => Ending.returned (vi x)) (kd_3 (by have := neI hb1; have := neI hb2; have := neI hb3; have := neI hb4; have := eqI hb5; omega)), hS.bel⟩)
     ·
      rw [hb5]
      refine sS Tryz.f15 2 [2, 11] [] (fun _ => [(.bool (z == 6)), (.bool (z == 6))]) (fun _ => []) (cR [[], []] <| cN) (fun _ => ?_)
      refine dRs [(2, (vi 0)), (11, (.bool (z == 6)))] [] ?_
      refine oC (z == 6) (fun hb6 => ?_) (fun hb6 => ?_)
      ·
       rw [hb6]
       refine sS Tryz.f15 1 [2] [] (fun _ => [(vi 2)]) (fun _ => []) (cR [[]] <| cN) (fun _ => ?_)
       refine ok_ret ?_
       refine mt_block_r ?_
       refine mt_then_r ?_
       exact mR (v := (vi 2)) (fun _ hS => ⟨congrArg (fun x => Ending.returned (vi x)) (kd_6 (by have := neI hb1; have := neI hb2; have := neI hb3; have := neI hb4; have := neI hb5; have := eqI hb6; omega)), hS.bel⟩)
      ·
       rw [hb6]
       refine ok_skip ?_
       refine mt_block_n ?_
       refine mt_then ?_
       refine sS Tryz.f15 1 [2] [] (fun _ => [(vi (-1))]) (fun _ => []) (cR [[]] <| cN) (fun _ => ?_)
       refine ok_ret ?_
       exact mR (v := (vi (-1))) (fun _ hS => ⟨congrArg (fun x => Ending.returned (vi x)) (kd_0 (by have := neI hb1; have := neI hb2; have := neI hb3; have := neI hb4; have := neI hb5; have := neI hb6; omega)), hS.bel⟩)
theorem dwhole_any (a : Option Addr) (c : Nat) (ts : List TmA) (w0 : World) (hf0 : TmF w0 a c ts) : Calls Tryz.prog 32 #[(.slice a (ts).length c)] w0 (fun ε w' => ε = .returned (.bool (whB 1 ts)) ∧ Below w0.heap.size w0 w') := by
 refine Calls.of_ok (n := 29) (F := (fun w => TmF w a c ts ∧ True)) Tryz.func32 rfl rfl rfl (by simp) (hf0.pers0.and persT) ?_
 have hlen : ts.length ≤ 1000000 := hf0.max
 have ho : TsOk ts := hf0.oks
 refine sS Tryz.f32 1 [0, 2] [] (fun _ => [(.bool false)]) (fun _ => []) (cR [[]] <| cN) (fun _ => ?_)
 refine sS Tryz.f32 1 [0, 2, 3] [] (fun _ => [(vi 1)]) (fun _ => []) (cR [[]] <| cN) (fun _ => ?_)
 refine ok_seq ?_
 refine sS Tryz.f32 3 [2, 3, 7, 8, 9] [] (fun _ => [(.slice a (ts).length c), (vn (ts).length), (vi 0)]) (fun _ => []) (cR [[], [], []] <| cN) (fun _ => ?_)
 refine ok_block ?_
 refine oL (σ := Nat × Int) (fun ⟨i, m⟩ => [(3, (vi m)), (7, (.slice a (ts).length c)), (8, (vn (ts).length)), (9, (vn i))]) (fun ⟨_, _⟩ => []) (fun ⟨i, _⟩ => ts.length - i)
   (fun ⟨i, m⟩ => (i ≤ ts.length) ∧ (0 ≤ m ∧ m ≤ 1 + (i : Int)) ∧ (whB m (ts.drop i) = whB 1 ts)) (0, 1) (⟨Nat.zero_le _, by decide, rfl⟩) [] ?_
 rintro ⟨i, m⟩ ⟨hi, hm, hr⟩
 change Ok Tryz.prog _ _ 29 [(3, (vi m)), (7, (.slice a (ts).length c)), (8, (vn (ts).length)), (9, (vn i))] _ [] (fun w => TmF w a c ts ∧ True)
 refine sS Tryz.f32 1 [3, 7, 8, 9, 10] [] (fun _ => [(.bool (decide (((i : Nat) : Int) < (((ts).length : Nat) : Int))))]) (fun _ => []) (cR [[]] <| cN) (fun _ => ?_)
 refine ok_seq ?_
 refine oC (decide (((i : Nat) : Int) < (((ts).length : Nat) : Int))) (fun hb1 => ?_) (fun hb1 => ?_)
 ·
  rw [hb1]
  refine ok_skip ?_
  refine mt_then ?_
  refine ok_seq ?_
  refine ok_block ?_
  refine sS Tryz.f32 4 [3, 5, 7, 8, 9] [] (fun ρ => [(.pointer (adr a (i * 36))), (.agg (TmA.row (gT ts i))), (pt (nb ρ 2)), undef]) (fun ρ => [(2, (nw ρ 2 (cL (tmV 0 0 0 0 (.slice none 0 0)) 46))), (3, (pwt 16 (nb ρ 2) (cL (TmA.row (gT ts i)) 46)))]) (cX (qF (fun _ _ _ hG => TmF.idx (k := .i64) Tryz.underlying24 Tryz.sizeOf46 hG.facts0.now.1 rfl ((show ((i : Nat) : Int) = ((i : Nat) : Int) ∧ i < (ts).length from ⟨rfl, (by have := yT hb1; have := hlen; have := hi; omega)⟩)).1 ((show ((i : Nat) : Int) = ((i : Nat) : Int) ∧ i < (ts).length from ⟨rfl, (by have := yT hb1; have := hlen; have := hi; omega)⟩)).2)) <| cX (qF (fun _ _ _ hG => TmF.ldA (i := i) Tryz.isAgg46 Tryz.sizeOf46 hG.facts0.now.1 ((show ((i : Nat) : Int) = ((i : Nat) : Int) ∧ i < (ts).length from ⟨rfl, (by have := yT hb1; have := hlen; have := hi; omega)⟩)).2)) <| cR [[], [16]] <| cN) (fun ρ5 => ?_)
  refine sS Tryz.f32 4 [3, 6, 7, 8, 9] [0] (fun _ => [(pt (nb ρ5 2)), (vi ((gT ts i).kd)), (vi (kdN (gT ts i).kd)), (vi (kdN (gT ts i).kd))]) (fun _ => []) (cR [[], [0]] <| cC (fun _ w => dkids_any (gT ts i).kd w) <| cR [[]] <| cN) (fun _ => ?_)
  refine ok_seq ?_
  rcases Bool.eq_false_or_eq_true (m == 0) with hb2 | hb2
  ·
   refine sS Tryz.f32 6 [3, 6, 7, 8, 9, 21] [] (fun _ => [(vi m), (.bool true), (.bool true), undef, undef, (.bool true)]) (fun _ => []) (cR [[]] <| cA (fun _ => (.bool true)) (fun _ => congrArg Value.bool hb2) <| cR [[], [], [], []] <| cN) (fun _ => ?_)
   refine oY ?_
   refine sS Tryz.f32 1 [2, 3, 6, 7, 8, 9] [] (fun _ => [(.bool false)]) (fun _ => []) (cR [[]] <| cN) (fun _ => ?_)
   refine ok_ret ?_
   refine mt_then_r ?_
   refine mt_block_r ?_
   refine mt_then_r ?_
   refine mt_then_r ?_
   refine mt_block_r ?_
   refine mt_then_r ?_
   exact mR (v := (.bool false)) (fun _ hS => ⟨congrArg (fun x => Ending.returned (.bool x)) ((wh_stop (by have := yT hb1; have := hlen; have := hi; omega) (Or.inl (eqI hb2)) hr).symm), hS.bel⟩)
  ·
   refine sS Tryz.f32 6 [3, 6, 7, 8, 9, 21] [] (fun _ => [(vi m), (.bool false), (.bool false), (vi (kdN (gT ts i).kd)), (.bool (decide ((kdN (gT ts i).kd) < 0))), (.bool (decide ((kdN (gT ts i).kd) < 0)))]) (fun _ => []) (cR [[]] <| cA (fun _ => (.bool false)) (fun _ => congrArg Value.bool hb2) <| cR [[], [], [], []] <| cN) (fun _ => ?_)
   refine oC (decide ((kdN (gT ts i).kd) < 0)) (fun hb3 => ?_) (fun hb3 => ?_)
   ·
    rw [hb3]
    refine sS Tryz.f32 1 [2, 3, 6, 7, 8, 9] [] (fun _ => [(.bool false)]) (fun _ => []) (cR [[]] <| cN) (fun _ => ?_)
    refine ok_ret ?_
    refine mt_then_r ?_
    refine mt_block_r ?_
    refine mt_then_r ?_
    refine mt_then_r ?_
    refine mt_block_r ?_
    refine mt_then_r ?_
    exact mR (v := (.bool false)) (fun _ hS => ⟨congrArg (fun x => Ending.returned (.bool x)) ((wh_stop (by have := yT hb1; have := yT hb3; have := hlen; have := hi; omega) (Or.inr (yT hb3)) hr).symm), hS.bel⟩)
   ·
    rw [hb3]
    refine ok_skip ?_
    refine mt_then ?_
    refine rS Tryz.f32 5 [3, 7, 8, 9] [] (fun _ => [(vi m), (vi (kdN (gT ts i).kd)), (vi (kdN (gT ts i).kd - 1)), (vi (m + (kdN (gT ts i).kd - 1))), (vi (m + (kdN (gT ts i).kd - 1)))]) (fun _ => []) (cR [[], []] <| cA (v := fun ρ => (vi (IntKind.i64.wrap ((kdN (gT ts i).kd) - 1)))) (fun _ => (vi (kdN (gT ts i).kd - 1))) (fun _ => congrArg (Value.int .i64) (i64N (by have := kdN_rng (gT ts i).kd; omega))) <| cA (v := fun ρ => (vi (IntKind.i64.wrap (m + (kdN (gT ts i).kd - 1))))) (fun _ => (vi (m + (kdN (gT ts i).kd - 1)))) (fun _ => congrArg (Value.int .i64) (i64N (by have := kdN_rng (gT ts i).kd; have := hm; have := hi; have := hlen; omega))) <| cR [[]] <| cN) (fun _ => ?_)
    refine mt_block_n ?_
    refine mt_then ?_
    refine rS Tryz.f32 2 [3, 7, 8, 9] [] (fun _ => [(vn (i + 1)), (vn (i + 1))]) (fun _ => []) (cA (v := fun ρ => (vi (IntKind.i64.wrap (((i : Nat) : Int) + 1)))) (fun _ => (vn (i + 1))) (fun _ => congrArg (Value.int .i64) (wrap_addN i 1 (by have := yT hb1; have := yF hb3; have := hlen; have := hi; omega))) <| cR [[]] <| cN) (fun _ => ?_)
    exact mN (i + 1, m + (kdN (gT ts i).kd - 1)) (by show ts.length - (i + 1) < ts.length - i; have := yT hb1; have := yF hb3; have := hlen; have := hi; omega) (⟨(by have := yT hb1; have := yF hb3; have := hlen; have := hi; omega), by have := kdN_rng (gT ts i).kd; have := hm; have := neI hb2; have := yF hb3; omega, wh_next (by have := yT hb1; have := yF hb3; have := hlen; have := hi; omega) (neI hb2) (yF hb3) hr⟩) []
 ·
  rw [hb1]
  refine ok_exit ?_
  refine mt_then_e ?_
  refine mt_then_e ?_
  refine mt_block_h ?_
  refine mt_then ?_
  refine sS Tryz.f32 3 [2] [] (fun _ => [(vi m), (.bool (m == 0)), (.bool (m == 0))]) (fun _ => []) (cR [[], [], []] <| cN) (fun _ => ?_)
  refine ok_ret ?_
  exact mR (v := (.bool (m == 0))) (fun _ hS => ⟨congrArg (fun x => Ending.returned (.bool x)) ((beq_dec m).trans (wh_end (by have := yF hb1; have := hlen; have := hi; omega) hr)), hS.bel⟩)
theorem dfields_any (kd : Int) (m : Int) (nu : Nat) (h : Nat) (ka : Option Addr) (kc : Nat) (ks : List KpA) (hh : h < M) (w0 : World) : Calls Tryz.prog 33 #[(.agg (tmV kd m ((nu : Nat) : Int) h (.slice ka (ks).length kc)))] w0 (fun ε w' => ε = .returned (.bool (fdN kd m nu h (ks).length)) ∧ Below w0.heap.size w0 w') := by
 refine Calls.of_ok (n := 70) (F := (fun _ => True)) Tryz.func33 rfl rfl rfl (by simp) (persTrue (fun _ => trivial)) ?_
 refine sS Tryz.f33 2 [1, 2] [] (fun ρ => [(pt (nb ρ 0)), (.bool false)]) (fun ρ => [(0, (nw ρ 0 (cL (tmV kd m ((nu : Nat) : Int) h (.slice ka (ks).length kc)) 46)))]) (cR [[], []] <| cN) (fun ρ1 => ?_)
 refine ok_seq ?_
 rcases Bool.eq_false_or_eq_true (kd != 2) with hb1 | hb1
 ·
  refine sS Tryz.f33 8 [1, 2, 10] [] (fun _ => [(pt (nb ρ1 0)), (vi kd), (.bool true), (.bool true), (.pointer (some ⟨nb ρ1 0, 1, none⟩)), (vi m), (.bool (m != 0)), (.bool (m != 0))]) (fun _ => []) (cR [[], [0]] <| cA (fun _ => (.bool true)) (fun _ => congrArg Value.bool hb1) <| cR [[], [], [0], [], []] <| cN) (fun _ => ?_)
  refine oC (m != 0) (fun hb2 => ?_) (fun hb2 => ?_)
  ·
   rw [hb2]
   refine sS Tryz.f33 1 [1, 2] [] (fun _ => [(.bool false)]) (fun _ => []) (cR [[]] <| cN) (fun _ => ?_)
   refine ok_ret ?_
   refine mt_then_r ?_
   exact mR (v := (.bool false)) (fun _ hS => ⟨congrArg (fun x => Ending.returned (.bool x)) ((fd_f (by have := bneI hb1; have := bneI hb2; unfold FdP; omega))), hS.bel⟩)
  ·
   rw [hb2]
   refine ok_skip ?_
   refine mt_then ?_
   refine ok_seq ?_
   rcases Bool.eq_false_or_eq_true (kd != 3) with hb3 | hb3
   ·
    rcases Bool.eq_false_or_eq_true (kd != 4) with hb4 | hb4
    ·
     refine sS Tryz.f33 13 [1, 2, 23] [] (fun _ => [(pt (nb ρ1 0)), (vi kd), (.bool true), (.bool true), (pt (nb ρ1 0)), (vi kd), (.bool true), (.bool true), (.bool true), (.pointer (some ⟨nb ρ1 0, 2, none⟩)), (.int .u32 ((nu : Nat) : Int)), (.bool (((nu : Nat) : Int) != 0)), (.bool (((nu : Nat) : Int) != 0))]) (fun _ => []) (cR [[], [0]] <| cA (fun _ => (.bool true)) (fun _ => congrArg Value.bool hb3) <| cR [[], [], [0]] <| cA (fun _ => (.bool true)) (fun _ => congrArg Value.bool hb4) <| cR [[], [], [], [0], [], []] <| cN) (fun _ => ?_)
     refine oC (((nu : Nat) : Int) != 0) (fun hb5 => ?_) (fun hb5 => ?_)
     ·
      rw [hb5]
      refine sS Tryz.f33 1 [1, 2] [] (fun _ => [(.bool false)]) (fun _ => []) (cR [[]] <| cN) (fun _ => ?_)
      refine ok_ret ?_
      refine mt_then_r ?_
      exact mR (v := (.bool false)) (fun _ hS => ⟨congrArg (fun x => Ending.returned (.bool x)) ((fd_f (by have := bneI hb1; have := bneI0 hb2; have := bneI hb3; have := bneI hb4; have := bneI hb5; unfold FdP; omega))), hS.bel⟩)
     ·
      rw [hb5]
      refine ok_skip ?_
      refine mt_then ?_
      refine ok_seq ?_
      rcases Bool.eq_false_or_eq_true (kd != 5) with hb6 | hb6
      ·
       refine sS Tryz.f33 9 [1, 2, 32] [] (fun _ => [(pt (nb ρ1 0)), (vi kd), (.bool true), (.bool true), (.pointer (some ⟨nb ρ1 0, 3, none⟩)), (.agg (hB h)), (.agg (hB 0)), (.bool (!decide (h = 0))), (.bool (!decide (h = 0)))]) (fun _ => []) (cR [[], [0]] <| cA (fun _ => (.bool true)) (fun _ => congrArg Value.bool hb6) <| cR [[], [], [0], []] <| cB (a := fun ρ => (.agg (hB h))) (b := fun ρ => (.agg (hB 0))) (v := fun ρ => (.bool (!decide (h = 0)))) .neq 43 (fun _ _ => neqH h 0 hh (by decide +kernel) _) <| cR [[]] <| cN) (fun _ => ?_)
       refine oC (!decide (h = 0)) (fun hb7 => ?_) (fun hb7 => ?_)
       ·
        rw [hb7]
        refine sS Tryz.f33 1 [1, 2] [] (fun _ => [(.bool false)]) (fun _ => []) (cR [[]] <| cN) (fun _ => ?_)
        refine ok_ret ?_
        refine mt_then_r ?_
        exact mR (v := (.bool false)) (fun _ hS => ⟨congrArg (fun x => Ending.returned (.bool x)) ((fd_f (by have := bneI hb1; have := bneI0 hb2; have := bneI hb3; have := bneI hb4; have := bneI0 hb5; have := bneI hb6; have := yF (not_t hb7); unfold FdP; omega))), hS.bel⟩)
       ·
        rw [hb7]
        refine ok_skip ?_
        refine mt_then ?_
        refine ok_seq ?_
        refine sS Tryz.f33 2 [1, 2, 34] [] (fun _ => [(pt (nb ρ1 0)), (vi kd)]) (fun _ => []) (cR [[], [0]] <| cN) (fun _ => ?_)
        refine ok_block ?_
        refine sS Tryz.f33 2 [1, 2, 34, 35] [] (fun _ => [(.bool (kd == 1)), (.bool (kd == 1))]) (fun _ => []) (cR [[], []] <| cN) (fun _ => ?_)
        refine oC (kd == 1) (fun hb8 => ?_) (fun hb8 => ?_)
        ·
         rw [hb8]
         refine sS Tryz.f33 5 [1, 2] [] (fun _ => [(.pointer (some ⟨nb ρ1 0, 35, none⟩)), (.slice ka (ks).length kc), (vn (ks).length), (.bool ((((ks).length : Nat) : Int) == 1)), (.bool ((((ks).length : Nat) : Int) == 1))]) (fun _ => []) (cR [[], [0], [], [], []] <| cN) (fun _ => ?_)
         refine ok_ret ?_
         refine mt_block_r ?_
         refine mt_then_r ?_
         exact mR (v := (.bool ((((ks).length : Nat) : Int) == 1))) (fun _ hS => ⟨congrArg (fun x => Ending.returned (.bool x)) ((fd_b (by have := bneI hb1; have := bneI0 hb2; have := bneI hb3; have := bneI hb4; have := bneI0 hb5; have := bneI hb6; have := yT (not_f hb7); have := eqI hb8; unfold FdP; omega))), hS.bel⟩)
        ·
         rw [hb8]
         refine sS Tryz.f33 2 [1, 2, 41] [] (fun _ => [(.bool false), (.bool false)]) (fun _ => []) (cA (fun _ => (.bool false)) (fun _ => congrArg Value.bool (beq_f (bneI hb1))) <| cR [[]] <| cN) (fun _ => ?_)
         refine dRs [(1, (pt (nb ρ1 0))), (2, (.bool false)), (41, (.bool false))] [(nb ρ1 0, (cL (tmV kd m ((nu : Nat) : Int) h (.slice ka (ks).length kc)) 46))] ?_
         refine oN ?_
         refine ok_skip ?_
         refine mt_block_n ?_
         refine mt_then ?_
         refine sS Tryz.f33 5 [2] [0] (fun _ => [(.pointer (some ⟨nb ρ1 0, 35, none⟩)), (.slice ka (ks).length kc), (vn (ks).length), (.bool ((((ks).length : Nat) : Int) == 0)), (.bool ((((ks).length : Nat) : Int) == 0))]) (fun _ => []) (cR [[], [0], [], [], []] <| cN) (fun _ => ?_)
         refine ok_ret ?_
         exact mR (v := (.bool ((((ks).length : Nat) : Int) == 0))) (fun _ hS => ⟨congrArg (fun x => Ending.returned (.bool x)) ((fd_b (by have := bneI hb1; have := bneI0 hb2; have := bneI hb3; have := bneI hb4; have := bneI0 hb5; have := bneI hb6; have := yT (not_f hb7); have := neI hb8; unfold FdP; omega))), hS.bel⟩)
      ·
       refine sS Tryz.f33 9 [1, 2, 32] [] (fun _ => [(pt (nb ρ1 0)), (vi kd), (.bool false), (.bool false), undef, undef, undef, undef, (.bool false)]) (fun _ => []) (cR [[], [0]] <| cA (fun _ => (.bool false)) (fun _ => congrArg Value.bool hb6) <| cR [[], [], [], [], [], []] <| cN) (fun _ => ?_)
       refine oN ?_
       refine ok_skip ?_
       refine mt_then ?_
       refine ok_seq ?_
       refine sS Tryz.f33 2 [1, 2, 34] [] (fun _ => [(pt (nb ρ1 0)), (vi kd)]) (fun _ => []) (cR [[], [0]] <| cN) (fun _ => ?_)
       refine ok_block ?_
       refine sS Tryz.f33 2 [1, 2, 34, 35] [] (fun _ => [(.bool false), (.bool false)]) (fun _ => []) (cA (v := fun ρ => (.bool (kd == 1))) (fun _ => (.bool false)) (fun _ => congrArg Value.bool (show (kd == 1) = false by rw [bneI0 hb6]; rfl)) <| cR [[]] <| cN) (fun _ => ?_)
       refine oN ?_
       refine sS Tryz.f33 2 [1, 2, 41] [] (fun _ => [(.bool false), (.bool false)]) (fun _ => []) (cA (v := fun ρ => (.bool (kd == 2))) (fun _ => (.bool false)) (fun _ => congrArg Value.bool (show (kd == 2) = false by rw [bneI0 hb6]; rfl)) <| cR [[]] <| cN) (fun _ => ?_)
       refine dRs [(1, (pt (nb ρ1 0))), (2, (.bool false)), (41, (.bool false))] [(nb ρ1 0, (cL (tmV kd m ((nu : Nat) : Int) h (.slice ka (ks).length kc)) 46))] ?_
       refine oN ?_
       refine ok_skip ?_
       refine mt_block_n ?_
       refine mt_then ?_
       refine sS Tryz.f33 5 [2] [0] (fun _ => [(.pointer (some ⟨nb ρ1 0, 35, none⟩)), (.slice ka (ks).length kc), (vn (ks).length), (.bool ((((ks).length : Nat) : Int) == 0)), (.bool ((((ks).length : Nat) : Int) == 0))]) (fun _ => []) (cR [[], [0], [], [], []] <| cN) (fun _ => ?_)
       refine ok_ret ?_
       exact mR (v := (.bool ((((ks).length : Nat) : Int) == 0))) (fun _ hS => ⟨congrArg (fun x => Ending.returned (.bool x)) ((fd_b (by have := bneI hb1; have := bneI0 hb2; have := bneI hb3; have := bneI hb4; have := bneI0 hb5; have := bneI0 hb6; unfold FdP; omega))), hS.bel⟩)
    ·
     refine sS Tryz.f33 13 [1, 2, 23] [] (fun _ => [(pt (nb ρ1 0)), (vi kd), (.bool true), (.bool true), (pt (nb ρ1 0)), (vi kd), (.bool false), (.bool false), (.bool false), undef, undef, undef, (.bool false)]) (fun _ => []) (cR [[], [0]] <| cA (fun _ => (.bool true)) (fun _ => congrArg Value.bool hb3) <| cR [[], [], [0]] <| cA (fun _ => (.bool false)) (fun _ => congrArg Value.bool hb4) <| cR [[], [], [], [], [], []] <| cN) (fun _ => ?_)
     refine oN ?_
     refine ok_skip ?_
     refine mt_then ?_
     refine ok_seq ?_
     refine sS Tryz.f33 9 [1, 2, 32] [] (fun _ => [(pt (nb ρ1 0)), (vi kd), (.bool true), (.bool true), (.pointer (some ⟨nb ρ1 0, 3, none⟩)), (.agg (hB h)), (.agg (hB 0)), (.bool (!decide (h = 0))), (.bool (!decide (h = 0)))]) (fun _ => []) (cR [[], [0]] <| cA (v := fun ρ => (.bool (kd != 5))) (fun _ => (.bool true)) (fun _ => congrArg Value.bool (show (kd != 5) = true by rw [bneI0 hb4]; rfl)) <| cR [[], [], [0], []] <| cB (a := fun ρ => (.agg (hB h))) (b := fun ρ => (.agg (hB 0))) (v := fun ρ => (.bool (!decide (h = 0)))) .neq 43 (fun _ _ => neqH h 0 hh (by decide +kernel) _) <| cR [[]] <| cN) (fun _ => ?_)
     refine oC (!decide (h = 0)) (fun hb9 => ?_) (fun hb9 => ?_)
     ·
      rw [hb9]
      refine sS Tryz.f33 1 [1, 2] [] (fun _ => [(.bool false)]) (fun _ => []) (cR [[]] <| cN) (fun _ => ?_)
      refine ok_ret ?_
      refine mt_then_r ?_
      exact mR (v := (.bool false)) (fun _ hS => ⟨congrArg (fun x => Ending.returned (.bool x)) ((fd_f (by have := bneI hb1; have := bneI0 hb2; have := bneI hb3; have := bneI0 hb4; have := yF (not_t hb9); unfold FdP; omega))), hS.bel⟩)
     ·
      rw [hb9]
      refine ok_skip ?_
      refine mt_then ?_
      refine ok_seq ?_
      refine sS Tryz.f33 2 [1, 2, 34] [] (fun _ => [(pt (nb ρ1 0)), (vi kd)]) (fun _ => []) (cR [[], [0]] <| cN) (fun _ => ?_)
      refine ok_block ?_
      refine sS Tryz.f33 2 [1, 2, 34, 35] [] (fun _ => [(.bool false), (.bool false)]) (fun _ => []) (cA (v := fun ρ => (.bool (kd == 1))) (fun _ => (.bool false)) (fun _ => congrArg Value.bool (show (kd == 1) = false by rw [bneI0 hb4]; rfl)) <| cR [[]] <| cN) (fun _ => ?_)
      refine oN ?_
      refine sS Tryz.f33 2 [1, 2, 41] [] (fun _ => [(.bool false), (.bool false)]) (fun _ => []) (cA (v := fun ρ => (.bool (kd == 2))) (fun _ => (.bool false)) (fun _ => congrArg Value.bool (show (kd == 2) = false by rw [bneI0 hb4]; rfl)) <| cR [[]] <| cN) (fun _ => ?_)
      refine dRs [(1, (pt (nb ρ1 0))), (2, (.bool false)), (41, (.bool false))] [(nb ρ1 0, (cL (tmV kd m ((nu : Nat) : Int) h (.slice ka (ks).length kc)) 46))] ?_
      refine oN ?_
      refine ok_skip ?_
      refine mt_block_n ?_
      refine mt_then ?_
      refine sS Tryz.f33 5 [2] [0] (fun _ => [(.pointer (some ⟨nb ρ1 0, 35, none⟩)), (.slice ka (ks).length kc), (vn (ks).length), (.bool ((((ks).length : Nat) : Int) == 0)), (.bool ((((ks).length : Nat) : Int) == 0))]) (fun _ => []) (cR [[], [0], [], [], []] <| cN) (fun _ => ?_)
      refine ok_ret ?_
      exact mR (v := (.bool ((((ks).length : Nat) : Int) == 0))) (fun _ hS => ⟨congrArg (fun x => Ending.returned (.bool x)) ((fd_b (by have := bneI hb1; have := bneI0 hb2; have := bneI hb3; have := bneI0 hb4; have := yT (not_f hb9); unfold FdP; omega))), hS.bel⟩)
   ·
    refine sS Tryz.f33 13 [1, 2, 23] [] (fun _ => [(pt (nb ρ1 0)), (vi kd), (.bool false), (.bool false), undef, undef, undef, (.bool false), (.bool false), undef, undef, undef, (.bool false)]) (fun _ => []) (cR [[], [0]] <| cA (fun _ => (.bool false)) (fun _ => congrArg Value.bool hb3) <| cR [[], [], [], [], [], [], [], [], [], []] <| cN) (fun _ => ?_)
    refine oN ?_
    refine ok_skip ?_
    refine mt_then ?_
    refine ok_seq ?_
    refine sS Tryz.f33 9 [1, 2, 32] [] (fun _ => [(pt (nb ρ1 0)), (vi kd), (.bool true), (.bool true), (.pointer (some ⟨nb ρ1 0, 3, none⟩)), (.agg (hB h)), (.agg (hB 0)), (.bool (!decide (h = 0))), (.bool (!decide (h = 0)))]) (fun _ => []) (cR [[], [0]] <| cA (v := fun ρ => (.bool (kd != 5))) (fun _ => (.bool true)) (fun _ => congrArg Value.bool (show (kd != 5) = true by rw [bneI0 hb3]; rfl)) <| cR [[], [], [0], []] <| cB (a := fun ρ => (.agg (hB h))) (b := fun ρ => (.agg (hB 0))) (v := fun ρ => (.bool (!decide (h = 0)))) .neq 43 (fun _ _ => neqH h 0 hh (by decide +kernel) _) <| cR [[]] <| cN) (fun _ => ?_)
    refine oC (!decide (h = 0)) (fun hb10 => ?_) (fun hb10 => ?_)
    ·
     rw [hb10]
     refine sS Tryz.f33 1 [1, 2] [] (fun _ => [(.bool false)]) (fun _ => []) (cR [[]] <| cN) (fun _ => ?_)
     refine ok_ret ?_
     refine mt_then_r ?_
     exact mR (v := (.bool false)) (fun _ hS => ⟨congrArg (fun x => Ending.returned (.bool x)) ((fd_f (by have := bneI hb1; have := bneI0 hb2; have := bneI0 hb3; have := yF (not_t hb10); unfold FdP; omega))), hS.bel⟩)
    ·
     rw [hb10]
     refine ok_skip ?_
     refine mt_then ?_
     refine ok_seq ?_
     refine sS Tryz.f33 2 [1, 2, 34] [] (fun _ => [(pt (nb ρ1 0)), (vi kd)]) (fun _ => []) (cR [[], [0]] <| cN) (fun _ => ?_)
     refine ok_block ?_
     refine sS Tryz.f33 2 [1, 2, 34, 35] [] (fun _ => [(.bool false), (.bool false)]) (fun _ => []) (cA (v := fun ρ => (.bool (kd == 1))) (fun _ => (.bool false)) (fun _ => congrArg Value.bool (show (kd == 1) = false by rw [bneI0 hb3]; rfl)) <| cR [[]] <| cN) (fun _ => ?_)
     refine oN ?_
     refine sS Tryz.f33 2 [1, 2, 41] [] (fun _ => [(.bool false), (.bool false)]) (fun _ => []) (cA (v := fun ρ => (.bool (kd == 2))) (fun _ => (.bool false)) (fun _ => congrArg Value.bool (show (kd == 2) = false by rw [bneI0 hb3]; rfl)) <| cR [[]] <| cN) (fun _ => ?_)
     refine dRs [(1, (pt (nb ρ1 0))), (2, (.bool false)), (41, (.bool false))] [(nb ρ1 0, (cL (tmV kd m ((nu : Nat) : Int) h (.slice ka (ks).length kc)) 46))] ?_
     refine oN ?_
     refine ok_skip ?_
     refine mt_block_n ?_
     refine mt_then ?_
     refine sS Tryz.f33 5 [2] [0] (fun _ => [(.pointer (some ⟨nb ρ1 0, 35, none⟩)), (.slice ka (ks).length kc), (vn (ks).length), (.bool ((((ks).length : Nat) : Int) == 0)), (.bool ((((ks).length : Nat) : Int) == 0))]) (fun _ => []) (cR [[], [0], [], [], []] <| cN) (fun _ => ?_)
     refine ok_ret ?_
     exact mR (v := (.bool ((((ks).length : Nat) : Int) == 0))) (fun _ hS => ⟨congrArg (fun x => Ending.returned (.bool x)) ((fd_b (by have := bneI hb1; have := bneI0 hb2; have := bneI0 hb3; have := yT (not_f hb10); unfold FdP; omega))), hS.bel⟩)
 ·
  refine sS Tryz.f33 8 [1, 2, 10] [] (fun _ => [(pt (nb ρ1 0)), (vi kd), (.bool false), (.bool false), undef, undef, undef, (.bool false)]) (fun _ => []) (cR [[], [0]] <| cA (fun _ => (.bool false)) (fun _ => congrArg Value.bool hb1) <| cR [[], [], [], [], []] <| cN) (fun _ => ?_)
  refine oN ?_
  refine ok_skip ?_
  refine mt_then ?_
  refine ok_seq ?_
  refine sS Tryz.f33 13 [1, 2, 23] [] (fun _ => [(pt (nb ρ1 0)), (vi kd), (.bool true), (.bool true), (pt (nb ρ1 0)), (vi kd), (.bool true), (.bool true), (.bool true), (.pointer (some ⟨nb ρ1 0, 2, none⟩)), (.int .u32 ((nu : Nat) : Int)), (.bool (((nu : Nat) : Int) != 0)), (.bool (((nu : Nat) : Int) != 0))]) (fun _ => []) (cR [[], [0]] <| cA (v := fun ρ => (.bool (kd != 3))) (fun _ => (.bool true)) (fun _ => congrArg Value.bool (show (kd != 3) = true by rw [bneI0 hb1]; rfl)) <| cR [[], [], [0]] <| cA (v := fun ρ => (.bool (kd != 4))) (fun _ => (.bool true)) (fun _ => congrArg Value.bool (show (kd != 4) = true by rw [bneI0 hb1]; rfl)) <| cR [[], [], [], [0], [], []] <| cN) (fun _ => ?_)
  refine oC (((nu : Nat) : Int) != 0) (fun hb11 => ?_) (fun hb11 => ?_)
  ·
   rw [hb11]
   refine sS Tryz.f33 1 [1, 2] [] (fun _ => [(.bool false)]) (fun _ => []) (cR [[]] <| cN) (fun _ => ?_)
   refine ok_ret ?_
   refine mt_then_r ?_
   exact mR (v := (.bool false)) (fun _ hS => ⟨congrArg (fun x => Ending.returned (.bool x)) ((fd_f (by have := bneI0 hb1; have := bneI hb11; unfold FdP; omega))), hS.bel⟩)
  ·
   rw [hb11]
   refine ok_skip ?_
   refine mt_then ?_
   refine ok_seq ?_
   refine sS Tryz.f33 9 [1, 2, 32] [] (fun _ => [(pt (nb ρ1 0)), (vi kd), (.bool true), (.bool true), (.pointer (some ⟨nb ρ1 0, 3, none⟩)), (.agg (hB h)), (.agg (hB 0)), (.bool (!decide (h = 0))), (.bool (!decide (h = 0)))]) (fun _ => []) (cR [[], [0]] <| cA (v := fun ρ => (.bool (kd != 5))) (fun _ => (.bool true)) (fun _ => congrArg Value.bool (show (kd != 5) = true by rw [bneI0 hb1]; rfl)) <| cR [[], [], [0], []] <| cB (a := fun ρ => (.agg (hB h))) (b := fun ρ => (.agg (hB 0))) (v := fun ρ => (.bool (!decide (h = 0)))) .neq 43 (fun _ _ => neqH h 0 hh (by decide +kernel) _) <| cR [[]] <| cN) (fun _ => ?_)
   refine oC (!decide (h = 0)) (fun hb12 => ?_) (fun hb12 => ?_)
   ·
    rw [hb12]
    refine sS Tryz.f33 1 [1, 2] [] (fun _ => [(.bool false)]) (fun _ => []) (cR [[]] <| cN) (fun _ => ?_)
    refine ok_ret ?_
    refine mt_then_r ?_
    exact mR (v := (.bool false)) (fun _ hS => ⟨congrArg (fun x => Ending.returned (.bool x)) ((fd_f (by have := bneI0 hb1; have := bneI0 hb11; have := yF (not_t hb12); unfold FdP; omega))), hS.bel⟩)
   ·
    rw [hb12]
    refine ok_skip ?_
    refine mt_then ?_
    refine ok_seq ?_
    refine sS Tryz.f33 2 [1, 2, 34] [] (fun _ => [(pt (nb ρ1 0)), (vi kd)]) (fun _ => []) (cR [[], [0]] <| cN) (fun _ => ?_)
    refine ok_block ?_
    refine sS Tryz.f33 2 [1, 2, 34, 35] [] (fun _ => [(.bool false), (.bool false)]) (fun _ => []) (cA (v := fun ρ => (.bool (kd == 1))) (fun _ => (.bool false)) (fun _ => congrArg Value.bool (show (kd == 1) = false by rw [bneI0 hb1]; rfl)) <| cR [[]] <| cN) (fun _ => ?_)
    refine oN ?_
    refine sS Tryz.f33 2 [1, 2, 41] [] (fun _ => [(.bool true), (.bool true)]) (fun _ => []) (cA (v := fun ρ => (.bool (kd == 2))) (fun _ => (.bool true)) (fun _ => congrArg Value.bool (show (kd == 2) = true by rw [bneI0 hb1]; rfl)) <| cR [[]] <| cN) (fun _ => ?_)
    refine dRs [(1, (pt (nb ρ1 0))), (2, (.bool false)), (41, (.bool true))] [(nb ρ1 0, (cL (tmV kd m ((nu : Nat) : Int) h (.slice ka (ks).length kc)) 46))] ?_
    refine oY ?_
    rcases Bool.eq_false_or_eq_true (decide (1 ≤ (((ks).length : Nat) : Int))) with hb13 | hb13
    ·
     rcases Bool.eq_false_or_eq_true (decide ((((ks).length : Nat) : Int) ≤ 15)) with hb14 | hb14
     ·
      rcases Bool.eq_false_or_eq_true (decide (1 ≤ m)) with hb15 | hb15
      ·
       refine sS Tryz.f33 24 [1, 2] [] (fun _ => [(.pointer (some ⟨nb ρ1 0, 35, none⟩)), (.slice ka (ks).length kc), (vn (ks).length), (.bool true), (.bool true), (.pointer (some ⟨nb ρ1 0, 35, none⟩)), (.slice ka (ks).length kc), (vn (ks).length), (.bool true), (.bool true), (.bool true), (.pointer (some ⟨nb ρ1 0, 1, none⟩)), (vi m), (.bool true), (.bool true), (.bool true), (.pointer (some ⟨nb ρ1 0, 1, none⟩)), (vi m), (.pointer (some ⟨nb ρ1 0, 35, none⟩)), (.slice ka (ks).length kc), (vn (ks).length), (.bool (decide (m ≤ (((ks).length : Nat) : Int)))), (.bool (decide (m ≤ (((ks).length : Nat) : Int)))), (.bool (decide (m ≤ (((ks).length : Nat) : Int))))]) (fun _ => []) (cR [[], [0], []] <| cA (fun _ => (.bool true)) (fun _ => congrArg Value.bool hb13) <| cR [[], [], [0], []] <| cA (fun _ => (.bool true)) (fun _ => congrArg Value.bool hb14) <| cR [[], [], [], [0]] <| cA (fun _ => (.bool true)) (fun _ => congrArg Value.bool hb15) <| cR [[], [], [], [0], [], [0], [], [], [], []] <| cN) (fun _ => ?_)
       refine ok_ret ?_
       refine mt_block_r ?_
       refine mt_then_r ?_
       exact mR (v := (.bool (decide (m ≤ (((ks).length : Nat) : Int))))) (fun _ hS => ⟨congrArg (fun x => Ending.returned (.bool x)) ((fd_d (by have := bneI0 hb1; have := bneI0 hb11; have := yT (not_f hb12); have := yT hb13; have := yT hb14; have := yT hb15; unfold FdP; omega))), hS.bel⟩)
      ·
       refine sS Tryz.f33 24 [1, 2] [] (fun _ => [(.pointer (some ⟨nb ρ1 0, 35, none⟩)), (.slice ka (ks).length kc), (vn (ks).length), (.bool true), (.bool true), (.pointer (some ⟨nb ρ1 0, 35, none⟩)), (.slice ka (ks).length kc), (vn (ks).length), (.bool true), (.bool true), (.bool true), (.pointer (some ⟨nb ρ1 0, 1, none⟩)), (vi m), (.bool false), (.bool false), (.bool false), undef, undef, undef, undef, undef, undef, (.bool false), (.bool false)]) (fun _ => []) (cR [[], [0], []] <| cA (fun _ => (.bool true)) (fun _ => congrArg Value.bool hb13) <| cR [[], [], [0], []] <| cA (fun _ => (.bool true)) (fun _ => congrArg Value.bool hb14) <| cR [[], [], [], [0]] <| cA (fun _ => (.bool false)) (fun _ => congrArg Value.bool hb15) <| cR [[], [], [], [], [], [], [], [], [], []] <| cN) (fun _ => ?_)
       refine ok_ret ?_
       refine mt_block_r ?_
       refine mt_then_r ?_
       exact mR (v := (.bool false)) (fun _ hS => ⟨congrArg (fun x => Ending.returned (.bool x)) ((fd_f (by have := bneI0 hb1; have := bneI0 hb11; have := yT (not_f hb12); have := yT hb13; have := yT hb14; have := yF hb15; unfold FdP; omega))), hS.bel⟩)
     ·
      refine sS Tryz.f33 24 [1, 2] [] (fun _ => [(.pointer (some ⟨nb ρ1 0, 35, none⟩)), (.slice ka (ks).length kc), (vn (ks).length), (.bool true), (.bool true), (.pointer (some ⟨nb ρ1 0, 35, none⟩)), (.slice ka (ks).length kc), (vn (ks).length), (.bool false), (.bool false), (.bool false), undef, undef, undef, (.bool false), (.bool false), undef, undef, undef, undef, undef, undef, (.bool false), (.bool false)]) (fun _ => []) (cR [[], [0], []] <| cA (fun _ => (.bool true)) (fun _ => congrArg Value.bool hb13) <| cR [[], [], [0], []] <| cA (fun _ => (.bool false)) (fun _ => congrArg Value.bool hb14) <| cR [[], [], [], [], [], [], [], [], [], [], [], [], [], [], []] <| cN) (fun _ => ?_)
      refine ok_ret ?_
      refine mt_block_r ?_
      refine mt_then_r ?_
      exact mR (v := (.bool false)) (fun _ hS => ⟨congrArg (fun x => Ending.returned (.bool x)) ((fd_f (by have := bneI0 hb1; have := bneI0 hb11; have := yT (not_f hb12); have := yT hb13; have := yF hb14; unfold FdP; omega))), hS.bel⟩)
    ·
     refine sS Tryz.f33 24 [1, 2] [] (fun _ => [(.pointer (some ⟨nb ρ1 0, 35, none⟩)), (.slice ka (ks).length kc), (vn (ks).length), (.bool false), (.bool false), undef, undef, undef, undef, (.bool false), (.bool false), undef, undef, undef, (.bool false), (.bool false), undef, undef, undef, undef, undef, undef, (.bool false), (.bool false)]) (fun _ => []) (cR [[], [0], []] <| cA (fun _ => (.bool false)) (fun _ => congrArg Value.bool hb13) <| cR [[], [], [], [], [], [], [], [], [], [], [], [], [], [], [], [], [], [], [], []] <| cN) (fun _ => ?_)
     refine ok_ret ?_
     refine mt_block_r ?_
     refine mt_then_r ?_
     exact mR (v := (.bool false)) (fun _ hS => ⟨congrArg (fun x => Ending.returned (.bool x)) ((fd_f (by have := bneI0 hb1; have := bneI0 hb11; have := yT (not_f hb12); have := yF hb13; unfold FdP; omega))), hS.bel⟩)
def tgD : List UInt8 := [108, 105, 103, 104, 116, 99, 108, 105, 101, 110, 116, 47, 100, 101, 115, 99, 114, 105, 112, 116, 111, 114]
theorem sum_8 (d : Nat) : ((((hxS ((hL d).take 4)).length : Nat) : Int) == 8) = true := by
  have h : (hxS ((hL d).take 4)).length = 8 := by rw [hxS_length, List.length_take, hL_length]; rfl
  rw [h]; rfl
theorem hex_any (a : Option Addr) (c : Nat) (B : List UInt8) (h46 : B.length ≤ 70368744175616) (w0 : World) (hf0 : Bs w0 a c B) : Calls Tryz.prog 29 #[(.slice a (B).length c)] w0 (fun ε w' => ε = .returned (.string (strB (hxS B))) ∧ Below w0.heap.size w0 w') := by
 refine Calls.of_ok (n := 28) (F := (fun w => Bs w a c B ∧ True)) Tryz.func29 rfl rfl rfl (by simp) (hf0.pers0.and persT) ?_
 refine sS Tryz.f29 1 [0, 2] [] (fun _ => [(.string ⟨#[]⟩)]) (fun _ => []) (cR [[]] <| cN) (fun _ => ?_)
 refine sS Tryz.f29 5 [0, 2, 3] [] (fun ρ => [(.slice a (B).length c), (vn (B).length), (vn (2 * ((B).length))), (vs (nb ρ 3) (([] : List UInt8)).length (2 * ((B).length))), (vs (nb ρ 3) (([] : List UInt8)).length (2 * ((B).length)))]) (fun ρ => [(3, (nw ρ 3 (cL (zB (2 * ((B).length))) 5)))]) (cR [[], []] <| cA (v := fun ρ => (vi (IntKind.i64.wrap (2 * (((B).length : Nat) : Int))))) (fun _ => (vn (2 * ((B).length)))) (fun _ => congrArg (Value.int .i64) (wrap_mulN 2 ((B).length) (by have := h46; omega))) <| cX (o_new1 _ (fun _ => do pure (Next.value (← Instr.makeSlice 33 (vi 0) (vn (2 * ((B).length)))))) (fun _ ζ => (vs (ζ.headD 0) (([] : List UInt8)).length (2 * ((B).length)))) (fun _ _ => (cL (zB (2 * ((B).length))) 5)) (fun _ _ => (by kernel_rfl)) (fun _ => (by kernel_rfl)) (fun _ _ => trivial) (fun _ _ w _ => make_rowL Tryz.underlying33 u8i (([] : List UInt8)) (rfl) (rfl) (Nat.zero_le _) (by have := h46; omega) w)) <| cR [[]] <| cN) (fun ρ2 => ?_)
 refine ok_seq ?_
 refine sS Tryz.f29 3 [2, 3, 10, 11, 12] [] (fun _ => [(.slice a (B).length c), (vn (B).length), (vi 0)]) (fun _ => []) (cR [[], [], []] <| cN) (fun _ => ?_)
 refine ok_block ?_
 refine oL (σ := Nat × (List UInt8) × (Array Value)) (fun ⟨i, X, _⟩ => [(2, (.string ⟨#[]⟩)), (3, (vs (nb ρ2 3) (X).length (2 * ((B).length)))), (10, (.slice a (B).length c)), (11, (vn (B).length)), (12, (vn i))]) (fun ⟨_, _, C⟩ => [(nb ρ2 3, (cL C 5))]) (fun ⟨i, _, _⟩ => B.length - i)
   (fun ⟨i, X, C⟩ => (i ≤ B.length) ∧ (X = hxS (B.take i)) ∧ (Hd C X) ∧ (C.size = 2 * B.length)) (0, ([] : List UInt8), zB (2 * ((B).length))) (⟨Nat.zero_le _, rfl, Hd.nil _, zB_size _⟩) [] ?_
 rintro ⟨i, X, C⟩ ⟨hi, hX, hC, hs⟩
 change Ok Tryz.prog _ _ 28 [(2, (.string ⟨#[]⟩)), (3, (vs (nb ρ2 3) (X).length (2 * ((B).length)))), (10, (.slice a (B).length c)), (11, (vn (B).length)), (12, (vn i))] _ [(nb ρ2 3, (cL C 5))] (fun w => Bs w a c B ∧ True)
 refine sS Tryz.f29 1 [2, 3, 10, 11, 12, 13] [] (fun _ => [(.bool (decide (((i : Nat) : Int) < (((B).length : Nat) : Int))))]) (fun _ => []) (cR [[]] <| cN) (fun _ => ?_)
 refine ok_seq ?_
 refine oC (decide (((i : Nat) : Int) < (((B).length : Nat) : Int))) (fun hb1 => ?_) (fun hb1 => ?_)
 ·
  rw [hb1]
  refine ok_skip ?_
  refine mt_then ?_
  refine ok_seq ?_
  refine ok_block ?_
  refine sS Tryz.f29 3 [2, 3, 5, 10, 11, 12] [] (fun _ => [(.pointer (adr a i)), (.int .u8 ((gB B i : Nat) : Int)), (.int .u8 ((gB B i : Nat) : Int))]) (fun _ => []) (cX (qF (fun _ _ _ hG => idx_bytes (k := .i64) Tryz.underlying33 u8i hG.facts0.now.1 rfl ((show ((i : Nat) : Int) = ((i : Nat) : Int) ∧ i < (B).length from ⟨rfl, (by have := yT hb1; have := h46; have := hi; have := hx_len hi hX; omega)⟩)).1 ((show ((i : Nat) : Int) = ((i : Nat) : Int) ∧ i < (B).length from ⟨rfl, (by have := yT hb1; have := h46; have := hi; have := hx_len hi hX; omega)⟩)).2)) <| cX (qF (fun _ _ _ hG => ld_bytes Tryz.isAgg5 hG.facts0.now.1 ((show ((i : Nat) : Int) = ((i : Nat) : Int) ∧ i < (B).length from ⟨rfl, (by have := yT hb1; have := h46; have := hi; have := hx_len hi hX; omega)⟩)).2)) <| cR [[]] <| cN) (fun _ => ?_)
  refine rD Tryz.f29 [0, 0, 2, 6, 0, 16, 48, 126, 255, 511] 10 [2, 3, 10, 11, 12] [1, 0] (fun ρ => [(vs (nb ρ2 3) (X).length (2 * ((B).length))), (.int .u8 ((gB B i : Nat) : Int)), (.int .u8 ((gB B i / 16 : Nat) : Int)), (.int .u8 ((hexD (gB B i / 16) : Nat) : Int)), (.int .u8 ((gB B i : Nat) : Int)), (.int .u8 ((gB B i % 16 : Nat) : Int)), (.int .u8 ((hexD (gB B i % 16) : Nat) : Int)), (vs (nb ρ 7) (([ob ((hexD (gB B i / 16) : Nat) : Int), ob ((hexD (gB B i % 16) : Nat) : Int)] : List UInt8)).length 2), (vs (nb ρ2 3) (X ++ ([ob ((hexD (gB B i / 16) : Nat) : Int), ob ((hexD (gB B i % 16) : Nat) : Int)] : List UInt8)).length (2 * ((B).length))), (vs (nb ρ2 3) (X ++ ([ob ((hexD (gB B i / 16) : Nat) : Int), ob ((hexD (gB B i % 16) : Nat) : Int)] : List UInt8)).length (2 * ((B).length)))]) (fun ρ => [(7, (nw ρ 7 (cL #[(.int .u8 ((hexD (gB B i / 16) : Nat) : Int)), (.int .u8 ((hexD (gB B i % 16) : Nat) : Int))] 5))), (8, (pwt 0 (nb ρ2 3) (cL (inpl C (X).length (bs ([ob ((hexD (gB B i / 16) : Nat) : Int), ob ((hexD (gB B i % 16) : Nat) : Int)] : List UInt8))) 5)))]) (cR [[], []] <| cB (a := fun ρ => (.int .u8 ((gB B i : Nat) : Int))) (b := fun ρ => (.int .u64 4)) (v := fun ρ => (.int .u8 ((gB B i / 16 : Nat) : Int))) .shr 5 (fun _ w => run_shrU (k := .u8) (x := gB B i) (c := 4) (gB_lt B i) w) <| cX (o_sem _ (fun _ => do pure (Next.value (← Instr.index 9 (.string (strB ([48, 49, 50, 51, 52, 53, 54, 55, 56, 57, 97, 98, 99, 100, 101, 102] : List UInt8))) (.int .u8 ((gB B i / 16 : Nat) : Int))))) (fun _ => (.int .u8 ((hexD (gB B i / 16) : Nat) : Int))) (fun _ => (by kernel_rfl)) (fun _ => (by kernel_rfl)) (fun _ w => (idx_str (S := ([48, 49, 50, 51, 52, 53, 54, 55, 56, 57, 97, 98, 99, 100, 101, 102] : List UInt8)) Tryz.underlying9 ((show ((gB B i / 16 : Nat) : Int) = (((gB B i / 16) : Nat) : Int) ∧ (gB B i / 16) < (([48, 49, 50, 51, 52, 53, 54, 55, 56, 57, 97, 98, 99, 100, 101, 102] : List UInt8)).length from ⟨rfl, (by have := gB_lt B i; show gB B i / 16 < 16; omega)⟩)).1 ((show ((gB B i / 16 : Nat) : Int) = (((gB B i / 16) : Nat) : Int) ∧ (gB B i / 16) < (([48, 49, 50, 51, 52, 53, 54, 55, 56, 57, 97, 98, 99, 100, 101, 102] : List UInt8)).length from ⟨rfl, (by have := gB_lt B i; show gB B i / 16 < 16; omega)⟩)).2 w).trans (by rw [gB_dig (show gB B i / 16 < 16 by have := gB_lt B i; omega)]))) <| cR [[]] <| cA (fun _ => (.int .u8 ((gB B i % 16 : Nat) : Int))) (fun _ => congrArg (Value.int .u8) (and15 (gB_lt B i))) <| cX (o_sem _ (fun _ => do pure (Next.value (← Instr.index 9 (.string (strB ([48, 49, 50, 51, 52, 53, 54, 55, 56, 57, 97, 98, 99, 100, 101, 102] : List UInt8))) (.int .u8 ((gB B i % 16 : Nat) : Int))))) (fun _ => (.int .u8 ((hexD (gB B i % 16) : Nat) : Int))) (fun _ => (by kernel_rfl)) (fun _ => (by kernel_rfl)) (fun _ w => (idx_str (S := ([48, 49, 50, 51, 52, 53, 54, 55, 56, 57, 97, 98, 99, 100, 101, 102] : List UInt8)) Tryz.underlying9 ((show ((gB B i % 16 : Nat) : Int) = (((gB B i % 16) : Nat) : Int) ∧ (gB B i % 16) < (([48, 49, 50, 51, 52, 53, 54, 55, 56, 57, 97, 98, 99, 100, 101, 102] : List UInt8)).length from ⟨rfl, (by have := gB_lt B i; show gB B i % 16 < 16; omega)⟩)).1 ((show ((gB B i % 16 : Nat) : Int) = (((gB B i % 16) : Nat) : Int) ∧ (gB B i % 16) < (([48, 49, 50, 51, 52, 53, 54, 55, 56, 57, 97, 98, 99, 100, 101, 102] : List UInt8)).length from ⟨rfl, (by have := gB_lt B i; show gB B i % 16 < 16; omega)⟩)).2 w).trans (by rw [gB_dig (show gB B i % 16 < 16 by have := gB_lt B i; omega)]))) <| cR [[]] <| cX (o_put1 _ 0 (fun ρ => do pure (Next.value (← Builtin.append_ #[33, 33] 33 #[(vs (nb ρ2 3) (X).length (2 * ((B).length))), (vs (nb ρ 7) (([ob ((hexD (gB B i / 16) : Nat) : Int), ob ((hexD (gB B i % 16) : Nat) : Int)] : List UInt8)).length 2)]))) (fun _ => nb ρ2 3) (fun _ => (cL C 5)) (fun _ => (cL (inpl C (X).length (bs ([ob ((hexD (gB B i / 16) : Nat) : Int), ob ((hexD (gB B i % 16) : Nat) : Int)] : List UInt8))) 5)) (fun _ => (vs (nb ρ2 3) (X ++ ([ob ((hexD (gB B i / 16) : Nat) : Int), ob ((hexD (gB B i % 16) : Nat) : Int)] : List UInt8)).length (2 * ((B).length)))) (fun _ => (by kernel_rfl)) (fun _ => (by kernel_rfl)) (fun _ => (by kernel_rfl)) (fun _ => (by kernel_rfl)) (fun _ _ => trivial) (fun ρ _ _ hG hg => app_roomL Tryz.underlying33 u8i hg (Bs.src (tx := 33) Tryz.underlying33 (Bs.of_hd (hG.kn (g := nb ρ 7) (o := (cL #[(.int .u8 ((hexD (gB B i / 16) : Nat) : Int)), (.int .u8 ((hexD (gB B i % 16) : Nat) : Int))] 5)) 57) (hd2 (hexD_rng (by have := gB_lt B i; omega)) (hexD_rng (by have := gB_lt B i; omega))) (Nat.le_refl 2) (Nat.le_of_ble_eq_true rfl))) hs ((by simp only [List.length_cons, List.length_nil]; have := yT hb1; have := h46; have := hi; have := hx_len hi hX; omega)))) <| cR [[]] <| cN) (fun _ => ?_)
  refine mt_block_n ?_
  refine mt_then ?_
  refine rS Tryz.f29 2 [2, 3, 10, 11, 12] [] (fun _ => [(vn (i + 1)), (vn (i + 1))]) (fun _ => []) (cA (v := fun ρ => (vi (IntKind.i64.wrap (((i : Nat) : Int) + 1)))) (fun _ => (vn (i + 1))) (fun _ => congrArg (Value.int .i64) (wrap_addN i 1 (by have := yT hb1; have := h46; have := hi; have := hx_len hi hX; omega))) <| cR [[]] <| cN) (fun _ => ?_)
  exact mN (i + 1, X ++ ([ob ((hexD (gB B i / 16) : Nat) : Int), ob ((hexD (gB B i % 16) : Nat) : Int)] : List UInt8), inpl C (X).length (bs ([ob ((hexD (gB B i / 16) : Nat) : Int), ob ((hexD (gB B i % 16) : Nat) : Int)] : List UInt8))) (by show B.length - (i + 1) < B.length - i; have := yT hb1; have := h46; have := hi; have := hx_len hi hX; omega) (⟨(by have := yT hb1; have := h46; have := hi; have := hx_len hi hX; omega), hx_next (by have := yT hb1; have := h46; have := hi; have := hx_len hi hX; omega) hX, (Hd.inpl hC rfl), ((inpl_size _ _ _ (room_le hs ((by simp only [List.length_cons, List.length_nil]; have := yT hb1; have := h46; have := hi; have := hx_len hi hX; omega)))).trans hs)⟩) []
 ·
  rw [hb1]
  refine ok_exit ?_
  refine mt_then_e ?_
  refine mt_then_e ?_
  refine mt_block_h ?_
  refine mt_then ?_
  refine sS Tryz.f29 3 [2] [0] (fun _ => [(vs (nb ρ2 3) (X).length (2 * ((B).length))), (.string (strB X)), (.string (strB X))]) (fun _ => []) (cR [[]] <| cX (o_semF _ (fun _ => do pure (Next.value (← convert 33 9 (vs (nb ρ2 3) (X).length (2 * ((B).length)))))) (fun _ => (.string (strB X))) (fun _ => (by kernel_rfl)) (fun _ => (by kernel_rfl)) (fun _ _ _ hG => str_bytes (xs := X) Tryz.underlying33 Tryz.underlying5 Tryz.underlying9 (Bs.of_hd (hG.kn (g := nb ρ2 3) (o := (cL C 5)) 0) hC (by have := h46; have := hi; have := hx_len hi hX; omega) (by have := h46; have := hi; have := hx_len hi hX; omega)) rfl) (fun _ _ _ _ => persT)) <| cR [[]] <| cN) (fun _ => ?_)
  refine ok_ret ?_
  exact mR (v := (.string (strB X))) (fun _ hS => ⟨congrArg (fun x => Ending.returned (.string (strB x))) (hx_end (by have := yF hb1; have := h46; have := hi; have := hx_len hi hX; omega) hX), hS.bel⟩)
theorem dsum_any (S : List UInt8) (hS : S.length + 1000 ≤ 140737488351232) (w0 : World) (hf0 : KbK w0) (hf1 : KbI w0) : Calls Tryz.prog 16 #[(.string (strB S))] w0 (fun ε w' => ε = .returned (.string (strB (hxS ((hL (tagN tgD S)).take 4)))) ∧ Below w0.heap.size w0 w') := by
 refine Calls.of_ok (n := 9) (F := (fun w => KbK w ∧ KbI w ∧ True)) Tryz.func16 rfl rfl rfl (by simp) (hf0.pers0.and (hf1.pers0.and persT)) ?_
 refine sS Tryz.f16 1 [0, 2] [] (fun _ => [(.string ⟨#[]⟩)]) (fun _ => []) (cR [[]] <| cN) (fun _ => ?_)
 refine sSf Tryz.f16 5 [2, 3] [] (fun ρ => [(.string (strB S)), (.slice (oa ρ 1) (S).length (nb ρ 1)), (.agg (hB (tagN tgD S))), (pt (nb ρ 3)), undef]) (fun ρ => [(3, (nw ρ 3 (cL (hB 0) 43))), (4, (pwt 24 (nb ρ 3) (cL (hB (tagN tgD S)) 43)))]) (fun ρ => [(1, fun w => Fs w0 w (oa ρ 1) (nb ρ 1) S)]) (fun ρ => (fun w => KbK w ∧ KbI w ∧ Fs w0 w (oa ρ 1) (nb ρ 1) S ∧ True)) (fun _ => True) (fun _ _ hF hf => ⟨⟨hF.1, hF.2.1, hf 1, trivial⟩, trivial⟩) (cR [[]] <| cX (o_newF _ (fun _ => do pure (Next.value (← convert 9 33 (.string (strB S))))) (fun _ α κ => (.slice α (S).length κ)) (fun _ => S) (fun _ _ => (by kernel_rfl)) (fun _ => (by kernel_rfl)) (fun _ _ => (by kernel_rfl)) (fun _ _ w _ => bytes_str Tryz.underlying9 Tryz.underlying33 Tryz.underlying5 S (by have := hS; omega) w)) <| cX (qC (fun ρ _ w hG => tagged_any tgD (oa ρ 1) (nb ρ 1) S (by decide) (by have := hS; omega) w ((show Fs w0 w (oa ρ 1) (nb ρ 1) S from (hG.facts 1 rfl).now).1) hG.facts0.now.1 hG.facts0.now.2.1)) <| cR [[], [24]] <| cN) (fun ρ2 _ => ?_)
 refine sS Tryz.f16 3 [2] [0] (fun _ => [(vs (nb ρ2 3) ((hL (tagN tgD S)).take 4).length 32), (.string (strB (hxS ((hL (tagN tgD S)).take 4)))), (.string (strB (hxS ((hL (tagN tgD S)).take 4))))]) (fun _ => []) (cR [[]] <| cX (qC (fun _ _ w hG => hex_any (some ⟨nb ρ2 3, 0, none⟩) 32 ((hL (tagN tgD S)).take 4) (by rw [List.length_take, hL_length]; decide) w (Bs.of_hd (c := 32) (hG.kn (g := nb ρ2 3) (o := (cL (hB (tagN tgD S)) 43)) 0) (Hd.take (hd_hB _) _) (Nat.le_of_ble_eq_true rfl) (Nat.le_of_ble_eq_true rfl)))) <| cR [[]] <| cN) (fun _ => ?_)
 refine ok_ret ?_
 exact mR (v := (.string (strB (hxS ((hL (tagN tgD S)).take 4))))) (fun _ hS => ⟨rfl, hS.bel⟩)
theorem dsanew_any (dd : Nat) (edd : tagN tgD ([] : List UInt8) = dd) (w0 : World) (hf0 : KbK w0) (hf1 : KbI w0) : Calls Tryz.prog 5 #[] w0 (fun ε w' => ε = .returned (.bool true) ∧ Below w0.heap.size w0 w') := by
 refine Calls.of_ok (n := 12) (F := (fun w => KbK w ∧ KbI w ∧ True)) Tryz.func5 rfl rfl rfl (by simp) (hf0.pers0.and (hf1.pers0.and persT)) ?_
 refine sS Tryz.f5 1 [0] [] (fun _ => [(.bool false)]) (fun _ => []) (cR [[]] <| cN) (fun _ => ?_)
 refine sS Tryz.f5 12 [0] [] (fun _ => [(vi (kdN 6)), (.bool true), (.bool true), (vi (kdN 9)), (.bool true), (.bool true), (.bool true), (.string (strB (hxS ((hL dd).take 4)))), (vn ((hxS ((hL dd).take 4)).length)), (.bool true), (.bool true), (.bool true)]) (fun _ => []) (cC (fun _ w => dkids_any 6 w) <| cA (v := fun ρ => (.bool ((kdN 6) == 2))) (fun _ => (.bool true)) (fun _ => congrArg Value.bool (show ((kdN 6) == 2) = true from rfl)) <| cR [[]] <| cC (fun _ w => dkids_any 9 w) <| cA (v := fun ρ => (.bool ((kdN 9) == (-1)))) (fun _ => (.bool true)) (fun _ => congrArg Value.bool (show ((kdN 9) == (-1)) = true from rfl)) <| cR [[], []] <| cX (o_callP _ 16 (fun _ => #[(.string ⟨#[]⟩)]) (fun _ => (.string (strB (hxS ((hL dd).take 4))))) (fun _ _ => (by kernel_rfl)) (fun _ => (by kernel_rfl)) (fun _ _ => (by kernel_rfl)) (fun _ _ => trivial) (fun _ _ w hG => (by as_aux_lemma => (have hcall := dsum_any ([] : List UInt8) (by decide) w hG.facts0.now.1 hG.facts0.now.2.1; rw [edd] at hcall; exact hcall)))) <| cR [[]] <| cA (fun _ => (.bool true)) (fun _ => congrArg Value.bool (sum_8 dd)) <| cR [[], []] <| cN) (fun _ => ?_)
 refine ok_ret ?_
 exact mR (v := (.bool true)) (fun _ hS => ⟨rfl, hS.bel⟩)
theorem dsane_any (w0 : World) (hf0 : KbK w0) (hf1 : KbI w0) : Calls Tryz.prog 5 #[] w0 (fun ε w' => ε = .returned (.bool true) ∧ Below w0.heap.size w0 w') := dsanew_any _ rfl w0 hf0 hf1
theorem reduce_w (a : Nat) (m : Nat) (ha : a < M) (hm : m < M) (w0 : World) : Calls Tryz.prog 144 #[(U a), (U m)] w0 (fun ε w' => ε = .returned (U (redN a m)) ∧ Below w0.heap.size w0 w') := by
 refine Calls.of_ok (n := 22) (F := (fun _ => True)) Tryz.func144 rfl rfl rfl (by simp) (persTrue (fun _ => trivial)) ?_
 refine sS Tryz.f144 3 [2, 3, 4] [] (fun ρ => [(pt (nb ρ 0)), (pt (nb ρ 1)), (pt (nb ρ 2))]) (fun ρ => [(0, (nw ρ 0 (cL (cU a) 39))), (1, (nw ρ 1 (cL (cU m) 39))), (2, (nw ρ 2 (cL (cU 0) 39)))]) (cR [[], [], []] <| cN) (fun ρ1 => ?_)
 refine ok_seq ?_
 refine sS Tryz.f144 4 [2, 3, 4, 11] [] (fun _ => [(U a), (U m), (vi (cmpN a m)), (.bool (decide ((cmpN a m) < 0)))]) (fun _ => []) (cR [[0], [1]] <| cC (fun _ w => cmp_any a m w ha hm) <| cR [[]] <| cN) (fun _ => ?_)
 refine oC (decide ((cmpN a m) < 0)) (fun hb1 => ?_) (fun hb1 => ?_)
 ·
  rw [hb1]
  refine sS Tryz.f144 2 [2, 3, 4] [] (fun _ => [(U a), undef]) (fun _ => [(1, (pwt 2 (nb ρ1 2) (cL (cU a) 39)))]) (cR [[0], [2]] <| cN) (fun _ => ?_)
  refine ok_ret ?_
  refine mt_then_r ?_
  exact mR (v := (U a)) (ps := [2,2,2,2]) (fun _ hS => ⟨congrArg (fun x => Ending.returned (U x)) (red_lt hb1), hS.bel⟩)
 ·
  rw [hb1]
  refine ok_skip ?_
  refine mt_then ?_
  refine sS Tryz.f144 13 [4, 6] [0, 0, 1, 0, 1] (fun ρ => [(U 0), (U a), (U m), (.tuple #[(U (divQ 0 a m)), (U (divR 0 a m)), (.bool (decide (0 < m)))]), (.tuple #[(U (divQ 0 a m)), (U (divR 0 a m)), (.bool (decide (0 < m)))]), (U (divQ 0 a m)), (U (divR 0 a m)), (.bool (decide (0 < m))), (pt (nb ρ 8)), (pt (nb ρ 9)), undef, undef, (.bool (decide (0 < m)))]) (fun ρ => [(8, (nw ρ 8 (cL (cU 0) 39))), (9, (nw ρ 9 (cL (cU 0) 39))), (10, (pwt 67 (nb ρ 8) (cL (cU (divQ 0 a m)) 39))), (11, (pwt 75 (nb ρ 9) (cL (cU (divR 0 a m)) 39)))]) (cR [[], [0], [1]] <| cC (fun _ w => div_any 0 a m w (by decide +kernel) ha hm) <| cR [[], [], [], [], [], [], [67], [75], []] <| cN) (fun _ => ?_)
  refine sS Tryz.f144 2 [4] [1, 0] (fun _ => [(U (divR 0 a m)), undef]) (fun _ => [(1, (pwt 0 (nb ρ1 2) (cL (cU (divR 0 a m)) 39)))]) (cR [[1], [0]] <| cN) (fun _ => ?_)
  refine ok_ret ?_
  exact mR (v := (U (divR 0 a m))) (fun _ hS => ⟨congrArg (fun x => Ending.returned (U x)) (red_div hb1), hS.bel⟩)
theorem reduce_any (a m : Nat) (w0 : World) (ha : a < M) (hm : m < M) : Calls Tryz.prog 144 #[U a, U m] w0 (fun ε w' => ε = .returned (U (redN a m)) ∧ Below w0.heap.size w0 w') := reduce_w a m ha hm w0
theorem rreduce_w (a : Nat) (m : Nat) (ha : a < M) (hm : m < M) (w0 : World) : Calls Tryz.prog 154 #[(U a), (U m)] w0 (fun ε w' => ε = .returned (U (redN a m)) ∧ Below w0.heap.size w0 w') := by
 refine Calls.of_ok (n := 17) (F := (fun _ => True)) Tryz.func154 rfl rfl rfl (by simp) (persTrue (fun _ => trivial)) ?_
 refine sS Tryz.f154 3 [2, 3, 4] [] (fun ρ => [(pt (nb ρ 0)), (pt (nb ρ 1)), (pt (nb ρ 2))]) (fun ρ => [(0, (nw ρ 0 (cL (cU a) 39))), (1, (nw ρ 1 (cL (cU m) 39))), (2, (nw ρ 2 (cL (cU 0) 39)))]) (cR [[], [], []] <| cN) (fun ρ1 => ?_)
 refine sS Tryz.f154 13 [4, 6] [0, 0, 1, 0, 1] (fun ρ => [(U 0), (U a), (U m), (.tuple #[(U (divQ 0 a m)), (U (divR 0 a m)), (.bool (decide (0 < m)))]), (.tuple #[(U (divQ 0 a m)), (U (divR 0 a m)), (.bool (decide (0 < m)))]), (U (divQ 0 a m)), (U (divR 0 a m)), (.bool (decide (0 < m))), (pt (nb ρ 8)), (pt (nb ρ 9)), undef, undef, (.bool (decide (0 < m)))]) (fun ρ => [(8, (nw ρ 8 (cL (cU 0) 39))), (9, (nw ρ 9 (cL (cU 0) 39))), (10, (pwt 67 (nb ρ 8) (cL (cU (divQ 0 a m)) 39))), (11, (pwt 75 (nb ρ 9) (cL (cU (divR 0 a m)) 39)))]) (cR [[], [0], [1]] <| cC (fun _ w => rdiv_any 0 a m w (by decide +kernel) ha hm) <| cR [[], [], [], [], [], [], [67], [75], []] <| cN) (fun _ => ?_)
 refine sS Tryz.f154 2 [4] [1, 0] (fun _ => [(U (divR 0 a m)), undef]) (fun _ => [(1, (pwt 0 (nb ρ1 2) (cL (cU (divR 0 a m)) 39)))]) (cR [[1], [0]] <| cN) (fun _ => ?_)
 refine ok_ret ?_
 exact mR (v := (U (divR 0 a m))) (fun _ hS => ⟨congrArg (fun x => Ending.returned (U x)) (red_div0 a m), hS.bel⟩)
theorem rreduce_any (a m : Nat) (w0 : World) (ha : a < M) (hm : m < M) : Calls Tryz.prog 154 #[U a, U m] w0 (fun ε w' => ε = .returned (U (redN a m)) ∧ Below w0.heap.size w0 w') := rreduce_w a m ha hm w0
theorem mul64_any (x y : Int) (hx : Word x) (hy : Word y) (w : World) : Calls Tryz.prog 161 #[.int .u64 x, .int .u64 y] w fun ε w' => ε = .returned (.tuple #[.int .u64 (mulHi x y), .int .u64 (mulLo x y)]) ∧ Below w.heap.size w w' := by
  obtain ⟨x, rfl⟩ := Int.eq_ofNat_of_zero_le hx.1
  obtain ⟨y, rfl⟩ := Int.eq_ofNat_of_zero_le hy.1
  refine (mul64_nat x y (by have := hx.2; omega) (by have := hy.2; omega) w).mono ?_
  rintro e w' ⟨rfl, rfl⟩
  refine ⟨?_, Below.refl _ _⟩
  unfold mulHi mulLo
  rw [Int.natCast_ediv, Int.natCast_emod, Int.natCast_mul]; rfl
theorem mul_w (a : Nat) (b : Nat) (ha : a < M) (hb : b < M) (w0 : World) : Calls Tryz.prog 146 #[(U a), (U b)] w0 (fun ε w' => ε = .returned (.tuple #[(U (a * b / M)), (U (a * b % M))]) ∧ Below w0.heap.size w0 w') := by
 refine Calls.of_ok (n := 69) (F := (fun _ => True)) Tryz.func146 rfl rfl rfl (by simp) (persTrue (fun _ => trivial)) ?_
 refine sS Tryz.f146 4 [2, 3, 4, 5] [] (fun ρ => [(pt (nb ρ 0)), (pt (nb ρ 1)), (pt (nb ρ 2)), (pt (nb ρ 3))]) (fun ρ => [(0, (nw ρ 0 (cL (cU a) 39))), (1, (nw ρ 1 (cL (cU b) 39))), (2, (nw ρ 2 (cL (cU 0) 39))), (3, (nw ρ 3 (cL (cU 0) 39)))]) (cR [[], [], [], []] <| cN) (fun ρ1 => ?_)
 refine sS Tryz.f146 1 [2, 3, 4, 5, 6] [] (fun ρ => [(pt (nb ρ 0))]) (fun ρ => [(0, (nw ρ 0 (cL #[(.int .u64 0), (.int .u64 0), (.int .u64 0), (.int .u64 0), (.int .u64 0), (.int .u64 0), (.int .u64 0), (.int .u64 0)] 138)))]) (cR [[]] <| cN) (fun ρ2 => ?_)
 refine ok_seq ?_
 refine sS Tryz.f146 1 [2, 3, 4, 5, 6, 14] [] (fun _ => [(vi 0)]) (fun _ => []) (cR [[]] <| cN) (fun _ => ?_)
 refine ok_block ?_
 refine oL (σ := Nat × (Nat → Int)) (fun ⟨i, _⟩ => [(2, (pt (nb ρ1 0))), (3, (pt (nb ρ1 1))), (4, (pt (nb ρ1 2))), (5, (pt (nb ρ1 3))), (6, (pt (nb ρ2 0))), (14, (vn i))]) (fun ⟨_, f⟩ => [(nb ρ1 0, (cL (cU a) 39)), (nb ρ1 1, (cL (cU b) 39)), (nb ρ1 2, (cL (cU 0) 39)), (nb ρ1 3, (cL (cU 0) 39)), (nb ρ2 0, (cL (c8 f) 138))]) (fun ⟨i, _⟩ => 4 - i)
   (fun ⟨i, f⟩ => (i ≤ 4) ∧ (MulO a b i f)) (0, (fun _ => 0)) (⟨by omega, mulO_zero a b⟩) [] ?_
 rintro ⟨i, f⟩ ⟨hi, hO⟩
 change Ok Tryz.prog _ _ 69 [(2, (pt (nb ρ1 0))), (3, (pt (nb ρ1 1))), (4, (pt (nb ρ1 2))), (5, (pt (nb ρ1 3))), (6, (pt (nb ρ2 0))), (14, (vn i))] _ [(nb ρ1 0, (cL (cU a) 39)), (nb ρ1 1, (cL (cU b) 39)), (nb ρ1 2, (cL (cU 0) 39)), (nb ρ1 3, (cL (cU 0) 39)), (nb ρ2 0, (cL (c8 f) 138))] (fun _ => True)
 refine sS Tryz.f146 1 [2, 3, 4, 5, 6, 14, 15] [] (fun _ => [(.bool (decide (((i : Nat) : Int) < 4)))]) (fun _ => []) (cR [[]] <| cN) (fun _ => ?_)
 refine ok_seq ?_
 refine oC (decide (((i : Nat) : Int) < 4)) (fun hb1 => ?_) (fun hb1 => ?_)
 ·
  rw [hb1]
  refine ok_skip ?_
  refine mt_then ?_
  refine ok_seq ?_
  refine ok_block ?_
  refine sS Tryz.f146 2 [2, 3, 4, 5, 6, 7, 14] [] (fun _ => [(vn i), (vn i)]) (fun _ => []) (cR [[], []] <| cN) (fun _ => ?_)
  refine sS Tryz.f146 1 [2, 3, 4, 5, 6, 7, 8, 14] [] (fun _ => [(.int .u64 0)]) (fun _ => []) (cR [[]] <| cN) (fun _ => ?_)
  refine ok_seq ?_
  refine sS Tryz.f146 1 [2, 3, 4, 5, 6, 7, 8, 14, 17] [] (fun _ => [(vi 0)]) (fun _ => []) (cR [[]] <| cN) (fun _ => ?_)
  refine ok_block ?_
  refine oL (σ := Nat × (Nat → Int) × Int) (fun ⟨j, _, c⟩ => [(2, (pt (nb ρ1 0))), (3, (pt (nb ρ1 1))), (4, (pt (nb ρ1 2))), (5, (pt (nb ρ1 3))), (6, (pt (nb ρ2 0))), (7, (vn i)), (8, (.int .u64 c)), (14, (vn i)), (17, (vn j))]) (fun ⟨_, u, _⟩ => [(nb ρ1 0, (cL (cU a) 39)), (nb ρ1 1, (cL (cU b) 39)), (nb ρ1 2, (cL (cU 0) 39)), (nb ρ1 3, (cL (cU 0) 39)), (nb ρ2 0, (cL (c8 u) 138))]) (fun ⟨j, _, _⟩ => 4 - j)
    (fun ⟨j, u, c⟩ => (j ≤ 4) ∧ (MulI a b i j u c)) (0, f, 0) (⟨by omega, mulO_begin hO⟩) [] ?_
  rintro ⟨j, u, c⟩ ⟨hj, hM⟩
  change Ok Tryz.prog _ _ 69 [(2, (pt (nb ρ1 0))), (3, (pt (nb ρ1 1))), (4, (pt (nb ρ1 2))), (5, (pt (nb ρ1 3))), (6, (pt (nb ρ2 0))), (7, (vn i)), (8, (.int .u64 c)), (14, (vn i)), (17, (vn j))] _ [(nb ρ1 0, (cL (cU a) 39)), (nb ρ1 1, (cL (cU b) 39)), (nb ρ1 2, (cL (cU 0) 39)), (nb ρ1 3, (cL (cU 0) 39)), (nb ρ2 0, (cL (c8 u) 138))] (fun _ => True)
  refine sS Tryz.f146 1 [2, 3, 4, 5, 6, 7, 8, 14, 17, 18] [] (fun _ => [(.bool (decide (((j : Nat) : Int) < 4)))]) (fun _ => []) (cR [[]] <| cN) (fun _ => ?_)
  refine ok_seq ?_
  refine oC (decide (((j : Nat) : Int) < 4)) (fun hb2 => ?_) (fun hb2 => ?_)
  ·
   rw [hb2]
   refine ok_skip ?_
   refine mt_then ?_
   refine ok_seq ?_
   refine ok_block ?_
   refine sS Tryz.f146 2 [2, 3, 4, 5, 6, 7, 8, 9, 14, 17] [] (fun _ => [(vn j), (vn j)]) (fun _ => []) (cR [[], []] <| cN) (fun _ => ?_)
   refine sD Tryz.f146 [0, 1, 3, 0, 8, 24, 63, 127, 255, 255, 511, 2047] 12 [2, 3, 4, 5, 6, 7, 8, 9, 10, 11, 14, 17] [] (fun _ => [(vn i), (.pointer (some ⟨nb ρ1 0, i, none⟩)), (.int .u64 (wd a i)), (vn j), (.pointer (some ⟨nb ρ1 1, j, none⟩)), (.int .u64 (wd b j)), (.tuple #[(.int .u64 (mulHi (wd a i) (wd b j))), (.int .u64 (mulLo (wd a i) (wd b j)))]), (.tuple #[(.int .u64 (mulHi (wd a i) (wd b j))), (.int .u64 (mulLo (wd a i) (wd b j)))]), (.int .u64 (mulHi (wd a i) (wd b j))), (.int .u64 (mulLo (wd a i) (wd b j))), (.int .u64 (mulHi (wd a i) (wd b j))), (.int .u64 (mulLo (wd a i) (wd b j)))]) (fun _ => []) (cR [[]] <| cX (o_sem _ (fun _ => do pure (Next.value (← Instr.indexAt 39 (pt (nb ρ1 0)) (vn i)))) (fun _ => (.pointer (some ⟨nb ρ1 0, i, none⟩))) (fun _ => by kernel_rfl) (fun _ => by kernel_rfl) (fun _ w => run_idx_nat (n := ((i : Nat) : Int)) (i := i) Tryz.underlying39 Tryz.sizeOf37 (⟨rfl, by have := yT hb1; omega⟩) w)) <| cX (o_ld _ 0 37 (fun _ => nb ρ1 0) (fun _ => i) (fun _ => (cU a)) 39 (0, 0) (fun _ => (.int .u64 (wd a i))) (fun _ => by kernel_rfl) Tryz.isAgg37 (fun _ => cU_get a i (by have := yT hb1; omega))) <| cR [[]] <| cX (o_sem _ (fun _ => do pure (Next.value (← Instr.indexAt 39 (pt (nb ρ1 1)) (vn j)))) (fun _ => (.pointer (some ⟨nb ρ1 1, j, none⟩))) (fun _ => by kernel_rfl) (fun _ => by kernel_rfl) (fun _ w => run_idx_nat (n := ((j : Nat) : Int)) (i := j) Tryz.underlying39 Tryz.sizeOf37 (⟨rfl, by have := yT hb2; omega⟩) w)) <| cX (o_ld _ 1 37 (fun _ => nb ρ1 1) (fun _ => j) (fun _ => (cU b)) 39 (0, 0) (fun _ => (.int .u64 (wd b j))) (fun _ => by kernel_rfl) Tryz.isAgg37 (fun _ => cU_get b j (by have := yT hb2; omega))) <| cC (fun _ w => mul64_any (wd a i) (wd b j) (wd_word a i) (wd_word b j) w) <| cR [[], [], [], [], []] <| cN) (fun _ => ?_)
   refine sS Tryz.f146 12 [2, 3, 4, 5, 6, 7, 8, 9, 10, 12, 13, 14, 17] [] (fun _ => [(.int .u64 (mulLo (wd a i) (wd b j))), (vn i), (vn j), (vn (i + j)), (.pointer (some ⟨nb ρ2 0, i + j, none⟩)), (.int .u64 (u (i + j))), (.tuple #[(.int .u64 (addLo (mulLo (wd a i) (wd b j)) (u (i + j)) 0)), (.int .u64 (addHi (mulLo (wd a i) (wd b j)) (u (i + j)) 0))]), (.tuple #[(.int .u64 (addLo (mulLo (wd a i) (wd b j)) (u (i + j)) 0)), (.int .u64 (addHi (mulLo (wd a i) (wd b j)) (u (i + j)) 0))]), (.int .u64 (addLo (mulLo (wd a i) (wd b j)) (u (i + j)) 0)), (.int .u64 (addHi (mulLo (wd a i) (wd b j)) (u (i + j)) 0)), (.int .u64 (addLo (mulLo (wd a i) (wd b j)) (u (i + j)) 0)), (.int .u64 (addHi (mulLo (wd a i) (wd b j)) (u (i + j)) 0))]) (fun _ => []) (cR [[], [], []] <| cA (v := fun ρ => (vi (IntKind.i64.wrap (((i : Nat) : Int) + ((j : Nat) : Int))))) (fun _ => (vn (i + j))) (fun _ => congrArg (Value.int .i64) (wrap_add_nat i j (by have := yT hb1; have := yT hb2; omega))) <| cX (o_sem _ (fun _ => do pure (Next.value (← Instr.indexAt 138 (pt (nb ρ2 0)) (vn (i + j))))) (fun _ => (.pointer (some ⟨nb ρ2 0, i + j, none⟩))) (fun _ => by kernel_rfl) (fun _ => by kernel_rfl) (fun _ w => run_idx_nat (n := ((i + j : Nat) : Int)) (i := i + j) Tryz.underlying138 Tryz.sizeOf37 (⟨rfl, by have := yT hb1; have := yT hb2; omega⟩) w)) <| cX (o_ld _ 4 37 (fun _ => nb ρ2 0) (fun _ => i + j) (fun _ => (c8 u)) 138 (0, 0) (fun _ => (.int .u64 (u (i + j)))) (fun _ => by kernel_rfl) Tryz.isAgg37 (fun _ => c8_get u (i + j) (by have := yT hb1; have := yT hb2; omega))) <| cX (o_sem _ (fun _ => callFunc 159 #[(.int .u64 (mulLo (wd a i) (wd b j))), (.int .u64 (u (i + j))), (.int .u64 0)]) (fun _ => (.tuple #[(.int .u64 (addLo (mulLo (wd a i) (wd b j)) (u (i + j)) 0)), (.int .u64 (addHi (mulLo (wd a i) (wd b j)) (u (i + j)) 0))])) (fun _ => by kernel_rfl) (fun _ => by kernel_rfl) (fun _ w => (add64 (mulLo (wd a i) (wd b j)) (u (i + j)) 0 (word_mulLo _ _) (hM.word _) bit_zero) w)) <| cR [[], [], [], [], []] <| cN) (fun _ => ?_)
   refine sS Tryz.f146 4 [2, 3, 4, 5, 6, 7, 8, 9, 10, 12, 13, 14, 17] [] (fun _ => [(.int .u64 (mulHi (wd a i) (wd b j))), (.int .u64 (addHi (mulLo (wd a i) (wd b j)) (u (i + j)) 0)), (.int .u64 (IntKind.u64.wrap ((mulHi (wd a i) (wd b j)) + (addHi (mulLo (wd a i) (wd b j)) (u (i + j)) 0)))), (.int .u64 (IntKind.u64.wrap ((mulHi (wd a i) (wd b j)) + (addHi (mulLo (wd a i) (wd b j)) (u (i + j)) 0))))]) (fun _ => []) (cR [[], [], [], []] <| cN) (fun _ => ?_)
   refine sS Tryz.f146 8 [2, 3, 4, 5, 6, 7, 8, 9, 10, 12, 13, 14, 17] [] (fun _ => [(.int .u64 (addLo (mulLo (wd a i) (wd b j)) (u (i + j)) 0)), (.int .u64 c), (.tuple #[(.int .u64 (addLo (addLo (mulLo (wd a i) (wd b j)) (u (i + j)) 0) c 0)), (.int .u64 (addHi (addLo (mulLo (wd a i) (wd b j)) (u (i + j)) 0) c 0))]), (.tuple #[(.int .u64 (addLo (addLo (mulLo (wd a i) (wd b j)) (u (i + j)) 0) c 0)), (.int .u64 (addHi (addLo (mulLo (wd a i) (wd b j)) (u (i + j)) 0) c 0))]), (.int .u64 (addLo (addLo (mulLo (wd a i) (wd b j)) (u (i + j)) 0) c 0)), (.int .u64 (addHi (addLo (mulLo (wd a i) (wd b j)) (u (i + j)) 0) c 0)), (.int .u64 (addLo (addLo (mulLo (wd a i) (wd b j)) (u (i + j)) 0) c 0)), (.int .u64 (addHi (addLo (mulLo (wd a i) (wd b j)) (u (i + j)) 0) c 0))]) (fun _ => []) (cR [[], []] <| cX (o_sem _ (fun _ => callFunc 159 #[(.int .u64 (addLo (mulLo (wd a i) (wd b j)) (u (i + j)) 0)), (.int .u64 c), (.int .u64 0)]) (fun _ => (.tuple #[(.int .u64 (addLo (addLo (mulLo (wd a i) (wd b j)) (u (i + j)) 0) c 0)), (.int .u64 (addHi (addLo (mulLo (wd a i) (wd b j)) (u (i + j)) 0) c 0))])) (fun _ => by kernel_rfl) (fun _ => by kernel_rfl) (fun _ w => (add64 (addLo (mulLo (wd a i) (wd b j)) (u (i + j)) 0) c 0 (word_addLo _ _ _) hM.car bit_zero) w)) <| cR [[], [], [], [], []] <| cN) (fun _ => ?_)
   refine rS Tryz.f146 10 [2, 3, 4, 5, 6, 7, 8, 14, 17] [] (fun _ => [(vn i), (vn j), (vn (i + j)), (.int .u64 (addLo (addLo (mulLo (wd a i) (wd b j)) (u (i + j)) 0) c 0)), (.int .u64 (IntKind.u64.wrap ((mulHi (wd a i) (wd b j)) + (addHi (mulLo (wd a i) (wd b j)) (u (i + j)) 0)))), (.int .u64 (addHi (addLo (mulLo (wd a i) (wd b j)) (u (i + j)) 0) c 0)), (.int .u64 (IntKind.u64.wrap ((IntKind.u64.wrap ((mulHi (wd a i) (wd b j)) + (addHi (mulLo (wd a i) (wd b j)) (u (i + j)) 0))) + (addHi (addLo (mulLo (wd a i) (wd b j)) (u (i + j)) 0) c 0)))), (.pointer (some ⟨nb ρ2 0, i + j, none⟩)), undef, (.int .u64 (IntKind.u64.wrap ((IntKind.u64.wrap ((mulHi (wd a i) (wd b j)) + (addHi (mulLo (wd a i) (wd b j)) (u (i + j)) 0))) + (addHi (addLo (mulLo (wd a i) (wd b j)) (u (i + j)) 0) c 0))))]) (fun _ => [(8, (pwt 4 (nb ρ2 0) (cL (c8 (updf u (i + j) (addLo (addLo (mulLo (wd a i) (wd b j)) (u (i + j)) 0) c 0))) 138)))]) (cR [[], []] <| cA (v := fun ρ => (vi (IntKind.i64.wrap (((i : Nat) : Int) + ((j : Nat) : Int))))) (fun _ => (vn (i + j))) (fun _ => congrArg (Value.int .i64) (wrap_add_nat i j (by have := yT hb1; have := yT hb2; omega))) <| cR [[], [], [], []] <| cX (o_sem _ (fun _ => do pure (Next.value (← Instr.indexAt 138 (pt (nb ρ2 0)) (vn (i + j))))) (fun _ => (.pointer (some ⟨nb ρ2 0, i + j, none⟩))) (fun _ => by kernel_rfl) (fun _ => by kernel_rfl) (fun _ w => run_idx_nat (n := ((i + j : Nat) : Int)) (i := i + j) Tryz.underlying138 Tryz.sizeOf37 (⟨rfl, by have := yT hb1; have := yT hb2; omega⟩) w)) <| cX (o_st _ 4 37 (fun _ => nb ρ2 0) (fun _ => i + j) (fun _ => (c8 u)) (fun _ => (c8 (updf u (i + j) (addLo (addLo (mulLo (wd a i) (wd b j)) (u (i + j)) 0) c 0)))) 138 (fun _ => (.int .u64 (addLo (addLo (mulLo (wd a i) (wd b j)) (u (i + j)) 0) c 0))) (fun _ => by kernel_rfl) Tryz.sizeOf37 (fun _ => rfl) (fun _ => (show _ < 8 from (by have := yT hb1; have := yT hb2; omega))) (fun _ => c8_set u (i + j) (addLo (addLo (mulLo (wd a i) (wd b j)) (u (i + j)) 0) c 0) (by have := yT hb1; have := yT hb2; omega))) <| cR [[]] <| cN) (fun _ => ?_)
   refine mt_block_n ?_
   refine mt_then ?_
   refine rS Tryz.f146 2 [2, 3, 4, 5, 6, 7, 8, 14, 17] [] (fun _ => [(vn (j + 1)), (vn (j + 1))]) (fun _ => []) (cA (v := fun ρ => (vi (IntKind.i64.wrap (((j : Nat) : Int) + 1)))) (fun _ => (vn (j + 1))) (fun _ => congrArg (Value.int .i64) (wrap_add_nat j 1 (by have := yT hb1; have := yT hb2; omega))) <| cR [[]] <| cN) (fun _ => ?_)
   exact mN (j + 1, updf u (i + j) (addLo (addLo (mulLo (wd a i) (wd b j)) (u (i + j)) 0) c 0), IntKind.u64.wrap ((IntKind.u64.wrap ((mulHi (wd a i) (wd b j)) + (addHi (mulLo (wd a i) (wd b j)) (u (i + j)) 0))) + (addHi (addLo (mulLo (wd a i) (wd b j)) (u (i + j)) 0) c 0))) (by show 4 - (j + 1) < 4 - j; have := yT hb2; omega) (⟨by have := yT hb2; omega, mulI_next (by have := yT hb1; omega) (by have := yT hb2; omega) hM (word_addLo _ _ _) (mul_step (wd_word a i) (wd_word b j) (hM.word _) hM.car).2 (mul_step (wd_word a i) (wd_word b j) (hM.word _) hM.car).1⟩) []
  ·
   rw [hb2]
   refine ok_exit ?_
   refine mt_then_e ?_
   refine mt_then_e ?_
   refine mt_block_h ?_
   refine mt_then ?_
   refine rS Tryz.f146 5 [2, 3, 4, 5, 6, 14] [] (fun _ => [(vn i), (vn (i + 4)), (.int .u64 c), (.pointer (some ⟨nb ρ2 0, i + 4, none⟩)), undef]) (fun _ => [(4, (pwt 4 (nb ρ2 0) (cL (c8 (updf u (i + 4) c)) 138)))]) (cR [[]] <| cA (v := fun ρ => (vi (IntKind.i64.wrap (((i : Nat) : Int) + 4)))) (fun _ => (vn (i + 4))) (fun _ => congrArg (Value.int .i64) (wrap_add_nat i 4 (by have := yT hb1; omega))) <| cR [[]] <| cX (o_sem _ (fun _ => do pure (Next.value (← Instr.indexAt 138 (pt (nb ρ2 0)) (vn (i + 4))))) (fun _ => (.pointer (some ⟨nb ρ2 0, i + 4, none⟩))) (fun _ => by kernel_rfl) (fun _ => by kernel_rfl) (fun _ w => run_idx_nat (n := ((i + 4 : Nat) : Int)) (i := i + 4) Tryz.underlying138 Tryz.sizeOf37 (⟨rfl, by have := yT hb1; omega⟩) w)) <| cX (o_st _ 4 37 (fun _ => nb ρ2 0) (fun _ => i + 4) (fun _ => (c8 u)) (fun _ => (c8 (updf u (i + 4) c))) 138 (fun _ => (.int .u64 c)) (fun _ => by kernel_rfl) Tryz.sizeOf37 (fun _ => rfl) (fun _ => (show _ < 8 from (by have := yT hb1; omega))) (fun _ => c8_set u (i + 4) c (by have := yT hb1; omega))) <| cN) (fun _ => ?_)
   refine mt_block_n ?_
   refine mt_then ?_
   refine rS Tryz.f146 2 [2, 3, 4, 5, 6, 14] [] (fun _ => [(vn (i + 1)), (vn (i + 1))]) (fun _ => []) (cA (v := fun ρ => (vi (IntKind.i64.wrap (((i : Nat) : Int) + 1)))) (fun _ => (vn (i + 1))) (fun _ => congrArg (Value.int .i64) (wrap_add_nat i 1 (by have := yT hb1; omega))) <| cR [[]] <| cN) (fun _ => ?_)
   exact mN (i + 1, updf u (i + 4) c) (by show 4 - (i + 1) < 4 - i; have := yT hb1; omega) (⟨by have := yT hb1; omega, mulI_end (by have := yT hb1; omega) (by have : j = 4 := (by have := yF hb2; omega); subst this; exact hM)⟩) []
 ·
  rw [hb1]
  refine ok_exit ?_
  refine mt_then_e ?_
  refine mt_then_e ?_
  refine mt_block_h ?_
  refine mt_then ?_
  refine sD Tryz.f146 [0, 1, 3, 0, 8, 24, 7, 127] 8 [4, 5] [0, 0, 1, 1, 0] (fun _ => [(.slice (some ⟨nb ρ2 0, 4, none⟩) 4 4), (.pointer (some ⟨nb ρ2 0, 4, none⟩)), (.agg #[(.int .u64 (f 4)), (.int .u64 (f 5)), (.int .u64 (f 6)), (.int .u64 (f 7))]), (vs (nb ρ2 0) 4 8), (pt (nb ρ2 0)), (.agg #[(.int .u64 (f 0)), (.int .u64 (f 1)), (.int .u64 (f 2)), (.int .u64 (f 3))]), undef, undef]) (fun _ => [(6, (pwt 2 (nb ρ1 2) (cL #[(.int .u64 (f 4)), (.int .u64 (f 5)), (.int .u64 (f 6)), (.int .u64 (f 7))] 39))), (7, (pwt 3 (nb ρ1 3) (cL #[(.int .u64 (f 0)), (.int .u64 (f 1)), (.int .u64 (f 2)), (.int .u64 (f 3))] 39)))]) (cR [[], [], [4], [], [], [4], [2], [3]] <| cN) (fun _ => ?_)
  refine ok_ret ?_
  exact mR (v := (.tuple #[(.agg #[(.int .u64 (f 4)), (.int .u64 (f 5)), (.int .u64 (f 6)), (.int .u64 (f 7))]), (.agg #[(.int .u64 (f 0)), (.int .u64 (f 1)), (.int .u64 (f 2)), (.int .u64 (f 3))])])) (ps := [0,0,0,0,1,1,1,1]) (fun _ hS => ⟨mul_end ha hb (by have : i = 4 := (by have := yF hb1; omega); subst this; exact hO), hS.bel⟩)
theorem mul_any (a b : Nat) (w0 : World) (ha : a < M) (hb : b < M) : Calls Tryz.prog 146 #[U a, U b] w0 (fun ε w' => ε = .returned (.tuple #[(U (a * b / M)), (U (a * b % M))]) ∧ Below w0.heap.size w0 w') := mul_w a b ha hb w0
theorem rmul_w (a : Nat) (b : Nat) (ha : a < M) (hb : b < M) (w0 : World) : Calls Tryz.prog 156 #[(U a), (U b)] w0 (fun ε w' => ε = .returned (.tuple #[(U (a * b / M)), (U (a * b % M))]) ∧ Below w0.heap.size w0 w') := by
 refine Calls.of_ok (n := 71) (F := (fun _ => True)) Tryz.func156 rfl rfl rfl (by simp) (persTrue (fun _ => trivial)) ?_
 refine sS Tryz.f156 4 [2, 3, 4, 5] [] (fun ρ => [(pt (nb ρ 0)), (pt (nb ρ 1)), (pt (nb ρ 2)), (pt (nb ρ 3))]) (fun ρ => [(0, (nw ρ 0 (cL (cU a) 39))), (1, (nw ρ 1 (cL (cU b) 39))), (2, (nw ρ 2 (cL (cU 0) 39))), (3, (nw ρ 3 (cL (cU 0) 39)))]) (cR [[], [], [], []] <| cN) (fun ρ1 => ?_)
 refine sS Tryz.f156 1 [2, 3, 4, 5, 6] [] (fun ρ => [(pt (nb ρ 0))]) (fun ρ => [(0, (nw ρ 0 (cL #[(.int .u64 0), (.int .u64 0), (.int .u64 0), (.int .u64 0), (.int .u64 0), (.int .u64 0), (.int .u64 0), (.int .u64 0)] 138)))]) (cR [[]] <| cN) (fun ρ2 => ?_)
 refine ok_seq ?_
 refine sS Tryz.f156 1 [2, 3, 4, 5, 6, 15] [] (fun _ => [(vi 0)]) (fun _ => []) (cR [[]] <| cN) (fun _ => ?_)
 refine ok_block ?_
 refine oL (σ := Nat × (Nat → Int)) (fun ⟨i, _⟩ => [(2, (pt (nb ρ1 0))), (3, (pt (nb ρ1 1))), (4, (pt (nb ρ1 2))), (5, (pt (nb ρ1 3))), (6, (pt (nb ρ2 0))), (15, (vn i))]) (fun ⟨_, f⟩ => [(nb ρ1 0, (cL (cU a) 39)), (nb ρ1 1, (cL (cU b) 39)), (nb ρ1 2, (cL (cU 0) 39)), (nb ρ1 3, (cL (cU 0) 39)), (nb ρ2 0, (cL (c8 f) 138))]) (fun ⟨i, _⟩ => 4 - i)
   (fun ⟨i, f⟩ => (i ≤ 4) ∧ (MulO a b i f)) (0, (fun _ => 0)) (⟨by omega, mulO_zero a b⟩) [] ?_
 rintro ⟨i, f⟩ ⟨hi, hO⟩
 change Ok Tryz.prog _ _ 71 [(2, (pt (nb ρ1 0))), (3, (pt (nb ρ1 1))), (4, (pt (nb ρ1 2))), (5, (pt (nb ρ1 3))), (6, (pt (nb ρ2 0))), (15, (vn i))] _ [(nb ρ1 0, (cL (cU a) 39)), (nb ρ1 1, (cL (cU b) 39)), (nb ρ1 2, (cL (cU 0) 39)), (nb ρ1 3, (cL (cU 0) 39)), (nb ρ2 0, (cL (c8 f) 138))] (fun _ => True)
 refine sS Tryz.f156 1 [2, 3, 4, 5, 6, 15, 16] [] (fun _ => [(.bool (decide (((i : Nat) : Int) < 4)))]) (fun _ => []) (cR [[]] <| cN) (fun _ => ?_)
 refine ok_seq ?_
 refine oC (decide (((i : Nat) : Int) < 4)) (fun hb1 => ?_) (fun hb1 => ?_)
 ·
  rw [hb1]
  refine ok_skip ?_
  refine mt_then ?_
  refine ok_seq ?_
  refine ok_block ?_
  refine sS Tryz.f156 2 [2, 3, 4, 5, 6, 7, 15] [] (fun _ => [(vn i), (vn i)]) (fun _ => []) (cR [[], []] <| cN) (fun _ => ?_)
  refine sS Tryz.f156 1 [2, 3, 4, 5, 6, 7, 8, 15] [] (fun _ => [(.int .u64 0)]) (fun _ => []) (cR [[]] <| cN) (fun _ => ?_)
  refine ok_seq ?_
  refine sS Tryz.f156 1 [2, 3, 4, 5, 6, 7, 8, 15, 18] [] (fun _ => [(vi 0)]) (fun _ => []) (cR [[]] <| cN) (fun _ => ?_)
  refine ok_block ?_
  refine oL (σ := Nat × (Nat → Int) × Int) (fun ⟨j, _, c⟩ => [(2, (pt (nb ρ1 0))), (3, (pt (nb ρ1 1))), (4, (pt (nb ρ1 2))), (5, (pt (nb ρ1 3))), (6, (pt (nb ρ2 0))), (7, (vn i)), (8, (.int .u64 c)), (15, (vn i)), (18, (vn j))]) (fun ⟨_, u, _⟩ => [(nb ρ1 0, (cL (cU a) 39)), (nb ρ1 1, (cL (cU b) 39)), (nb ρ1 2, (cL (cU 0) 39)), (nb ρ1 3, (cL (cU 0) 39)), (nb ρ2 0, (cL (c8 u) 138))]) (fun ⟨j, _, _⟩ => 4 - j)
    (fun ⟨j, u, c⟩ => (j ≤ 4) ∧ (MulI a b i j u c)) (0, f, 0) (⟨by omega, mulO_begin hO⟩) [] ?_
  rintro ⟨j, u, c⟩ ⟨hj, hM⟩
  change Ok Tryz.prog _ _ 71 [(2, (pt (nb ρ1 0))), (3, (pt (nb ρ1 1))), (4, (pt (nb ρ1 2))), (5, (pt (nb ρ1 3))), (6, (pt (nb ρ2 0))), (7, (vn i)), (8, (.int .u64 c)), (15, (vn i)), (18, (vn j))] _ [(nb ρ1 0, (cL (cU a) 39)), (nb ρ1 1, (cL (cU b) 39)), (nb ρ1 2, (cL (cU 0) 39)), (nb ρ1 3, (cL (cU 0) 39)), (nb ρ2 0, (cL (c8 u) 138))] (fun _ => True)
  refine sS Tryz.f156 1 [2, 3, 4, 5, 6, 7, 8, 15, 18, 19] [] (fun _ => [(.bool (decide (((j : Nat) : Int) < 4)))]) (fun _ => []) (cR [[]] <| cN) (fun _ => ?_)
  refine ok_seq ?_
  refine oC (decide (((j : Nat) : Int) < 4)) (fun hb2 => ?_) (fun hb2 => ?_)
  ·
   rw [hb2]
   refine ok_skip ?_
   refine mt_then ?_
   refine ok_seq ?_
   refine ok_block ?_
   refine sS Tryz.f156 2 [2, 3, 4, 5, 6, 7, 8, 9, 15, 18] [] (fun _ => [(vn j), (vn j)]) (fun _ => []) (cR [[], []] <| cN) (fun _ => ?_)
   refine sD Tryz.f156 [0, 1, 3, 0, 8, 24, 63, 127, 255, 255, 511, 2047] 12 [2, 3, 4, 5, 6, 7, 8, 9, 10, 11, 15, 18] [] (fun _ => [(vn i), (.pointer (some ⟨nb ρ1 0, i, none⟩)), (.int .u64 (wd a i)), (vn j), (.pointer (some ⟨nb ρ1 1, j, none⟩)), (.int .u64 (wd b j)), (.tuple #[(.int .u64 (mulHi (wd a i) (wd b j))), (.int .u64 (mulLo (wd a i) (wd b j)))]), (.tuple #[(.int .u64 (mulHi (wd a i) (wd b j))), (.int .u64 (mulLo (wd a i) (wd b j)))]), (.int .u64 (mulHi (wd a i) (wd b j))), (.int .u64 (mulLo (wd a i) (wd b j))), (.int .u64 (mulHi (wd a i) (wd b j))), (.int .u64 (mulLo (wd a i) (wd b j)))]) (fun _ => []) (cR [[]] <| cX (o_sem _ (fun _ => do pure (Next.value (← Instr.indexAt 39 (pt (nb ρ1 0)) (vn i)))) (fun _ => (.pointer (some ⟨nb ρ1 0, i, none⟩))) (fun _ => by kernel_rfl) (fun _ => by kernel_rfl) (fun _ w => run_idx_nat (n := ((i : Nat) : Int)) (i := i) Tryz.underlying39 Tryz.sizeOf37 (⟨rfl, by have := yT hb1; omega⟩) w)) <| cX (o_ld _ 0 37 (fun _ => nb ρ1 0) (fun _ => i) (fun _ => (cU a)) 39 (0, 0) (fun _ => (.int .u64 (wd a i))) (fun _ => by kernel_rfl) Tryz.isAgg37 (fun _ => cU_get a i (by have := yT hb1; omega))) <| cR [[]] <| cX (o_sem _ (fun _ => do pure (Next.value (← Instr.indexAt 39 (pt (nb ρ1 1)) (vn j)))) (fun _ => (.pointer (some ⟨nb ρ1 1, j, none⟩))) (fun _ => by kernel_rfl) (fun _ => by kernel_rfl) (fun _ w => run_idx_nat (n := ((j : Nat) : Int)) (i := j) Tryz.underlying39 Tryz.sizeOf37 (⟨rfl, by have := yT hb2; omega⟩) w)) <| cX (o_ld _ 1 37 (fun _ => nb ρ1 1) (fun _ => j) (fun _ => (cU b)) 39 (0, 0) (fun _ => (.int .u64 (wd b j))) (fun _ => by kernel_rfl) Tryz.isAgg37 (fun _ => cU_get b j (by have := yT hb2; omega))) <| cC (fun _ w => mul64_any (wd a i) (wd b j) (wd_word a i) (wd_word b j) w) <| cR [[], [], [], [], []] <| cN) (fun _ => ?_)
   refine sS Tryz.f156 12 [2, 3, 4, 5, 6, 7, 8, 9, 10, 12, 13, 15, 18] [] (fun _ => [(vn i), (vn j), (vn (i + j)), (.pointer (some ⟨nb ρ2 0, i + j, none⟩)), (.int .u64 (u (i + j))), (.int .u64 (mulLo (wd a i) (wd b j))), (.tuple #[(.int .u64 (addLo (u (i + j)) (mulLo (wd a i) (wd b j)) 0)), (.int .u64 (addHi (u (i + j)) (mulLo (wd a i) (wd b j)) 0))]), (.tuple #[(.int .u64 (addLo (u (i + j)) (mulLo (wd a i) (wd b j)) 0)), (.int .u64 (addHi (u (i + j)) (mulLo (wd a i) (wd b j)) 0))]), (.int .u64 (addLo (u (i + j)) (mulLo (wd a i) (wd b j)) 0)), (.int .u64 (addHi (u (i + j)) (mulLo (wd a i) (wd b j)) 0)), (.int .u64 (addLo (u (i + j)) (mulLo (wd a i) (wd b j)) 0)), (.int .u64 (addHi (u (i + j)) (mulLo (wd a i) (wd b j)) 0))]) (fun _ => []) (cR [[], []] <| cA (v := fun ρ => (vi (IntKind.i64.wrap (((i : Nat) : Int) + ((j : Nat) : Int))))) (fun _ => (vn (i + j))) (fun _ => congrArg (Value.int .i64) (wrap_add_nat i j (by have := yT hb1; have := yT hb2; omega))) <| cX (o_sem _ (fun _ => do pure (Next.value (← Instr.indexAt 138 (pt (nb ρ2 0)) (vn (i + j))))) (fun _ => (.pointer (some ⟨nb ρ2 0, i + j, none⟩))) (fun _ => by kernel_rfl) (fun _ => by kernel_rfl) (fun _ w => run_idx_nat (n := ((i + j : Nat) : Int)) (i := i + j) Tryz.underlying138 Tryz.sizeOf37 (⟨rfl, by have := yT hb1; have := yT hb2; omega⟩) w)) <| cX (o_ld _ 4 37 (fun _ => nb ρ2 0) (fun _ => i + j) (fun _ => (c8 u)) 138 (0, 0) (fun _ => (.int .u64 (u (i + j)))) (fun _ => by kernel_rfl) Tryz.isAgg37 (fun _ => c8_get u (i + j) (by have := yT hb1; have := yT hb2; omega))) <| cR [[]] <| cX (o_sem _ (fun _ => callFunc 159 #[(.int .u64 (u (i + j))), (.int .u64 (mulLo (wd a i) (wd b j))), (.int .u64 0)]) (fun _ => (.tuple #[(.int .u64 (addLo (u (i + j)) (mulLo (wd a i) (wd b j)) 0)), (.int .u64 (addHi (u (i + j)) (mulLo (wd a i) (wd b j)) 0))])) (fun _ => by kernel_rfl) (fun _ => by kernel_rfl) (fun _ w => (add64 (u (i + j)) (mulLo (wd a i) (wd b j)) 0 (hM.word _) (word_mulLo _ _) bit_zero) w)) <| cR [[], [], [], [], []] <| cN) (fun _ => ?_)
   refine sS Tryz.f156 8 [2, 3, 4, 5, 6, 7, 8, 9, 10, 12, 13, 14, 15, 18] [] (fun _ => [(.int .u64 (addLo (u (i + j)) (mulLo (wd a i) (wd b j)) 0)), (.int .u64 c), (.tuple #[(.int .u64 (addLo (addLo (u (i + j)) (mulLo (wd a i) (wd b j)) 0) c 0)), (.int .u64 (addHi (addLo (u (i + j)) (mulLo (wd a i) (wd b j)) 0) c 0))]), (.tuple #[(.int .u64 (addLo (addLo (u (i + j)) (mulLo (wd a i) (wd b j)) 0) c 0)), (.int .u64 (addHi (addLo (u (i + j)) (mulLo (wd a i) (wd b j)) 0) c 0))]), (.int .u64 (addLo (addLo (u (i + j)) (mulLo (wd a i) (wd b j)) 0) c 0)), (.int .u64 (addHi (addLo (u (i + j)) (mulLo (wd a i) (wd b j)) 0) c 0)), (.int .u64 (addLo (addLo (u (i + j)) (mulLo (wd a i) (wd b j)) 0) c 0)), (.int .u64 (addHi (addLo (u (i + j)) (mulLo (wd a i) (wd b j)) 0) c 0))]) (fun _ => []) (cR [[], []] <| cX (o_sem _ (fun _ => callFunc 159 #[(.int .u64 (addLo (u (i + j)) (mulLo (wd a i) (wd b j)) 0)), (.int .u64 c), (.int .u64 0)]) (fun _ => (.tuple #[(.int .u64 (addLo (addLo (u (i + j)) (mulLo (wd a i) (wd b j)) 0) c 0)), (.int .u64 (addHi (addLo (u (i + j)) (mulLo (wd a i) (wd b j)) 0) c 0))])) (fun _ => by kernel_rfl) (fun _ => by kernel_rfl) (fun _ w => (add64 (addLo (u (i + j)) (mulLo (wd a i) (wd b j)) 0) c 0 (word_addLo _ _ _) hM.car bit_zero) w)) <| cR [[], [], [], [], []] <| cN) (fun _ => ?_)
   refine rS Tryz.f156 12 [2, 3, 4, 5, 6, 7, 8, 15, 18] [] (fun _ => [(vn i), (vn j), (vn (i + j)), (.int .u64 (addLo (addLo (u (i + j)) (mulLo (wd a i) (wd b j)) 0) c 0)), (.int .u64 (mulHi (wd a i) (wd b j))), (.int .u64 (addHi (u (i + j)) (mulLo (wd a i) (wd b j)) 0)), (.int .u64 (IntKind.u64.wrap ((mulHi (wd a i) (wd b j)) + (addHi (u (i + j)) (mulLo (wd a i) (wd b j)) 0)))), (.int .u64 (addHi (addLo (u (i + j)) (mulLo (wd a i) (wd b j)) 0) c 0)), (.int .u64 (IntKind.u64.wrap ((IntKind.u64.wrap ((mulHi (wd a i) (wd b j)) + (addHi (u (i + j)) (mulLo (wd a i) (wd b j)) 0))) + (addHi (addLo (u (i + j)) (mulLo (wd a i) (wd b j)) 0) c 0)))), (.pointer (some ⟨nb ρ2 0, i + j, none⟩)), undef, (.int .u64 (IntKind.u64.wrap ((IntKind.u64.wrap ((mulHi (wd a i) (wd b j)) + (addHi (u (i + j)) (mulLo (wd a i) (wd b j)) 0))) + (addHi (addLo (u (i + j)) (mulLo (wd a i) (wd b j)) 0) c 0))))]) (fun _ => [(10, (pwt 4 (nb ρ2 0) (cL (c8 (updf u (i + j) (addLo (addLo (u (i + j)) (mulLo (wd a i) (wd b j)) 0) c 0))) 138)))]) (cR [[], []] <| cA (v := fun ρ => (vi (IntKind.i64.wrap (((i : Nat) : Int) + ((j : Nat) : Int))))) (fun _ => (vn (i + j))) (fun _ => congrArg (Value.int .i64) (wrap_add_nat i j (by have := yT hb1; have := yT hb2; omega))) <| cR [[], [], [], [], [], []] <| cX (o_sem _ (fun _ => do pure (Next.value (← Instr.indexAt 138 (pt (nb ρ2 0)) (vn (i + j))))) (fun _ => (.pointer (some ⟨nb ρ2 0, i + j, none⟩))) (fun _ => by kernel_rfl) (fun _ => by kernel_rfl) (fun _ w => run_idx_nat (n := ((i + j : Nat) : Int)) (i := i + j) Tryz.underlying138 Tryz.sizeOf37 (⟨rfl, by have := yT hb1; have := yT hb2; omega⟩) w)) <| cX (o_st _ 4 37 (fun _ => nb ρ2 0) (fun _ => i + j) (fun _ => (c8 u)) (fun _ => (c8 (updf u (i + j) (addLo (addLo (u (i + j)) (mulLo (wd a i) (wd b j)) 0) c 0)))) 138 (fun _ => (.int .u64 (addLo (addLo (u (i + j)) (mulLo (wd a i) (wd b j)) 0) c 0))) (fun _ => by kernel_rfl) Tryz.sizeOf37 (fun _ => rfl) (fun _ => (show _ < 8 from (by have := yT hb1; have := yT hb2; omega))) (fun _ => c8_set u (i + j) (addLo (addLo (u (i + j)) (mulLo (wd a i) (wd b j)) 0) c 0) (by have := yT hb1; have := yT hb2; omega))) <| cR [[]] <| cN) (fun _ => ?_)
   refine mt_block_n ?_
   refine mt_then ?_
   refine rS Tryz.f156 2 [2, 3, 4, 5, 6, 7, 8, 15, 18] [] (fun _ => [(vn (j + 1)), (vn (j + 1))]) (fun _ => []) (cA (v := fun ρ => (vi (IntKind.i64.wrap (((j : Nat) : Int) + 1)))) (fun _ => (vn (j + 1))) (fun _ => congrArg (Value.int .i64) (wrap_add_nat j 1 (by have := yT hb1; have := yT hb2; omega))) <| cR [[]] <| cN) (fun _ => ?_)
   exact mN (j + 1, updf u (i + j) (addLo (addLo (u (i + j)) (mulLo (wd a i) (wd b j)) 0) c 0), IntKind.u64.wrap ((IntKind.u64.wrap ((mulHi (wd a i) (wd b j)) + (addHi (u (i + j)) (mulLo (wd a i) (wd b j)) 0))) + (addHi (addLo (u (i + j)) (mulLo (wd a i) (wd b j)) 0) c 0))) (by show 4 - (j + 1) < 4 - j; have := yT hb2; omega) (⟨by have := yT hb2; omega, mulI_next (by have := yT hb1; omega) (by have := yT hb2; omega) hM (word_addLo _ _ _) (rmul_step (wd_word a i) (wd_word b j) (hM.word _) hM.car).2 (rmul_step (wd_word a i) (wd_word b j) (hM.word _) hM.car).1⟩) []
  ·
   rw [hb2]
   refine ok_exit ?_
   refine mt_then_e ?_
   refine mt_then_e ?_
   refine mt_block_h ?_
   refine mt_then ?_
   refine rS Tryz.f156 5 [2, 3, 4, 5, 6, 15] [] (fun _ => [(vn i), (vn (i + 4)), (.int .u64 c), (.pointer (some ⟨nb ρ2 0, i + 4, none⟩)), undef]) (fun _ => [(4, (pwt 4 (nb ρ2 0) (cL (c8 (updf u (i + 4) c)) 138)))]) (cR [[]] <| cA (v := fun ρ => (vi (IntKind.i64.wrap (((i : Nat) : Int) + 4)))) (fun _ => (vn (i + 4))) (fun _ => congrArg (Value.int .i64) (wrap_add_nat i 4 (by have := yT hb1; omega))) <| cR [[]] <| cX (o_sem _ (fun _ => do pure (Next.value (← Instr.indexAt 138 (pt (nb ρ2 0)) (vn (i + 4))))) (fun _ => (.pointer (some ⟨nb ρ2 0, i + 4, none⟩))) (fun _ => by kernel_rfl) (fun _ => by kernel_rfl) (fun _ w => run_idx_nat (n := ((i + 4 : Nat) : Int)) (i := i + 4) Tryz.underlying138 Tryz.sizeOf37 (⟨rfl, by have := yT hb1; omega⟩) w)) <| cX (o_st _ 4 37 (fun _ => nb ρ2 0) (fun _ => i + 4) (fun _ => (c8 u)) (fun _ => (c8 (updf u (i + 4) c))) 138 (fun _ => (.int .u64 c)) (fun _ => by kernel_rfl) Tryz.sizeOf37 (fun _ => rfl) (fun _ => (show _ < 8 from (by have := yT hb1; omega))) (fun _ => c8_set u (i + 4) c (by have := yT hb1; omega))) <| cN) (fun _ => ?_)
   refine mt_block_n ?_
   refine mt_then ?_
   refine rS Tryz.f156 2 [2, 3, 4, 5, 6, 15] [] (fun _ => [(vn (i + 1)), (vn (i + 1))]) (fun _ => []) (cA (v := fun ρ => (vi (IntKind.i64.wrap (((i : Nat) : Int) + 1)))) (fun _ => (vn (i + 1))) (fun _ => congrArg (Value.int .i64) (wrap_add_nat i 1 (by have := yT hb1; omega))) <| cR [[]] <| cN) (fun _ => ?_)
   exact mN (i + 1, updf u (i + 4) c) (by show 4 - (i + 1) < 4 - i; have := yT hb1; omega) (⟨by have := yT hb1; omega, mulI_end (by have := yT hb1; omega) (by have : j = 4 := (by have := yF hb2; omega); subst this; exact hM)⟩) []
 ·
  rw [hb1]
  refine ok_exit ?_
  refine mt_then_e ?_
  refine mt_then_e ?_
  refine mt_block_h ?_
  refine mt_then ?_
  refine sD Tryz.f156 [0, 0, 3] 3 [4, 5, 6] [0, 0, 1, 1, 1] (fun _ => [(vs (nb ρ1 3) 4 4), (vs (nb ρ2 0) 4 8), (vi 4)]) (fun _ => [(2, (pwt 3 (nb ρ1 3) (cL #[(.int .u64 (f 0)), (.int .u64 (f 1)), (.int .u64 (f 2)), (.int .u64 (f 3))] 39)))]) (cR [[], []] <| cX (o_run _ [3, 4] [1, 1, 1, 1, 0, 0, 0, 0] (fun _ _ => [nb ρ2 0, nb ρ2 0, nb ρ2 0, nb ρ2 0, nb ρ1 3, nb ρ1 3, nb ρ1 3, nb ρ1 3]) (fun _ _ => by kernel_rfl)) <| cN) (fun _ => ?_)
  refine sD Tryz.f156 [0, 0, 3] 3 [4, 5] [1, 1, 0] (fun _ => [(vs (nb ρ1 2) 4 4), (.slice (some ⟨nb ρ2 0, 4, none⟩) 4 4), (vi 4)]) (fun _ => [(2, (pwt 0 (nb ρ1 2) (cL #[(.int .u64 (f 4)), (.int .u64 (f 5)), (.int .u64 (f 6)), (.int .u64 (f 7))] 39)))]) (cR [[], []] <| cX (o_run _ [0, 2] [1, 1, 1, 1, 0, 0, 0, 0] (fun _ _ => [nb ρ2 0, nb ρ2 0, nb ρ2 0, nb ρ2 0, nb ρ1 2, nb ρ1 2, nb ρ1 2, nb ρ1 2]) (fun _ _ => by kernel_rfl)) <| cN) (fun _ => ?_)
  refine sS Tryz.f156 4 [4, 5] [] (fun _ => [(.agg #[(.int .u64 (f 4)), (.int .u64 (f 5)), (.int .u64 (f 6)), (.int .u64 (f 7))]), (.agg #[(.int .u64 (f 0)), (.int .u64 (f 1)), (.int .u64 (f 2)), (.int .u64 (f 3))]), undef, undef]) (fun _ => [(2, (pwt 0 (nb ρ1 2) (cL #[(.int .u64 (f 4)), (.int .u64 (f 5)), (.int .u64 (f 6)), (.int .u64 (f 7))] 39))), (3, (pwt 1 (nb ρ1 3) (cL #[(.int .u64 (f 0)), (.int .u64 (f 1)), (.int .u64 (f 2)), (.int .u64 (f 3))] 39)))]) (cR [[0], [1], [0], [1]] <| cN) (fun _ => ?_)
  refine ok_ret ?_
  exact mR (v := (.tuple #[(.agg #[(.int .u64 (f 4)), (.int .u64 (f 5)), (.int .u64 (f 6)), (.int .u64 (f 7))]), (.agg #[(.int .u64 (f 0)), (.int .u64 (f 1)), (.int .u64 (f 2)), (.int .u64 (f 3))])])) (ps := [0,0,0,0,1,1,1,1]) (fun _ hS => ⟨mul_end ha hb (by have : i = 4 := (by have := yF hb1; omega); subst this; exact hO), hS.bel⟩)
theorem rmul_any (a b : Nat) (w0 : World) (ha : a < M) (hb : b < M) : Calls Tryz.prog 156 #[U a, U b] w0 (fun ε w' => ε = .returned (.tuple #[(U (a * b / M)), (U (a * b % M))]) ∧ Below w0.heap.size w0 w') := rmul_w a b ha hb w0
theorem addmod_w (a : Nat) (b : Nat) (m : Nat) (ha : a < M) (hb : b < M) (hm : m < M) (w0 : World) : Calls Tryz.prog 125 #[(U a), (U b), (U m)] w0 (fun ε w' => ε = .returned (U (addmN a b m)) ∧ Below w0.heap.size w0 w') := by
 refine Calls.of_ok (n := 37) (F := (fun _ => True)) Tryz.func125 rfl rfl rfl (by simp) (persTrue (fun _ => trivial)) ?_
 refine sS Tryz.f125 4 [3, 4, 5, 6] [] (fun ρ => [(pt (nb ρ 0)), (pt (nb ρ 1)), (pt (nb ρ 2)), (pt (nb ρ 3))]) (fun ρ => [(0, (nw ρ 0 (cL (cU a) 39))), (1, (nw ρ 1 (cL (cU b) 39))), (2, (nw ρ 2 (cL (cU m) 39))), (3, (nw ρ 3 (cL (cU 0) 39)))]) (cR [[], [], [], []] <| cN) (fun ρ1 => ?_)
 refine ok_seq ?_
 refine sS Tryz.f125 3 [3, 4, 5, 6, 11] [] (fun _ => [(U m), (U 0), (.bool (decide (m = 0)))]) (fun _ => []) (cR [[2], []] <| cB (a := fun ρ => (U m)) (b := fun ρ => (U 0)) (v := fun ρ => (.bool (decide (m = 0)))) .eql 39 (fun _ _ => eqlU m 0 hm (by decide +kernel) _) <| cN) (fun _ => ?_)
 refine oC (decide (m = 0)) (fun hb1 => ?_) (fun hb1 => ?_)
 ·
  rw [hb1]
  refine sS Tryz.f125 2 [3, 4, 5, 6] [] (fun _ => [(U 0), undef]) (fun _ => [(1, (pwt 3 (nb ρ1 3) (cL (cU 0) 39)))]) (cR [[], [3]] <| cN) (fun _ => ?_)
  refine ok_ret ?_
  refine mt_then_r ?_
  exact mR (v := (U 0)) (ps := [3,3,3,3]) (fun _ hS => ⟨congrArg (fun x => Ending.returned (U x)) (addm_0 hb1), hS.bel⟩)
 ·
  rw [hb1]
  refine ok_skip ?_
  refine mt_then ?_
  refine sD Tryz.f125 [0, 0, 3, 0, 0, 31, 63, 127, 255, 255, 0, 1535, 4095] 13 [5, 6, 7, 8] [0, 0, 1, 1, 1] (fun ρ => [(U a), (U m), (U (redN a m)), (U b), (U m), (U (redN b m)), (.tuple #[(U (((redN a m) + (redN b m)) % M)), (.bool (decide (M ≤ (redN a m) + (redN b m))))]), (.tuple #[(U (((redN a m) + (redN b m)) % M)), (.bool (decide (M ≤ (redN a m) + (redN b m))))]), (U (((redN a m) + (redN b m)) % M)), (.bool (decide (M ≤ (redN a m) + (redN b m)))), (pt (nb ρ 10)), undef, (.bool (decide (M ≤ (redN a m) + (redN b m))))]) (fun ρ => [(10, (nw ρ 10 (cL (cU 0) 39))), (11, (pwt 84 (nb ρ 10) (cL (cU (((redN a m) + (redN b m)) % M)) 39)))]) (cR [[0], [2]] <| cC (fun _ w => reduce_any a m w ha hm) <| cR [[1], [2]] <| cC (fun _ w => reduce_any b m w hb hm) <| cC (fun _ w => add_any (redN a m) (redN b m) w (redN_lt ha) (redN_lt hb)) <| cR [[], [], [], [], [84], []] <| cN) (fun ρ4 => ?_)
  refine ok_seq ?_
  rcases Bool.eq_false_or_eq_true (decide (M ≤ (redN a m) + (redN b m))) with hb2 | hb2
  ·
   rw [hb2]
   refine sS Tryz.f125 7 [5, 6, 7, 29] [] (fun _ => [(.bool true), (.bool true), undef, undef, undef, undef, (.bool true)]) (fun _ => []) (cR [[], [], [], [], [], [], []] <| cN) (fun _ => ?_)
   refine oY ?_
   refine rS Tryz.f125 7 [6, 7] [0, 1, 1] (fun _ => [(U (((redN a m) + (redN b m)) % M)), (U m), (.tuple #[(U (((((redN a m) + (redN b m)) % M) + M - m) % M)), (.bool (decide ((((redN a m) + (redN b m)) % M) < m)))]), (.tuple #[(U (((((redN a m) + (redN b m)) % M) + M - m) % M)), (.bool (decide ((((redN a m) + (redN b m)) % M) < m)))]), (U (((((redN a m) + (redN b m)) % M) + M - m) % M)), (.bool (decide ((((redN a m) + (redN b m)) % M) < m))), undef]) (fun _ => [(6, (pwt 2 (nb ρ4 10) (cL (cU (((((redN a m) + (redN b m)) % M) + M - m) % M)) 39)))]) (cR [[2], [0]] <| cC (f := 145) (args := fun ρ => #[(U (((redN a m) + (redN b m)) % M)), (U m)]) (v := fun ρ => (.tuple #[(U (((((redN a m) + (redN b m)) % M) + M - m) % M)), (.bool (decide ((((redN a m) + (redN b m)) % M) < m)))])) (fun _ w => (fun w => sub_any (((redN a m) + (redN b m)) % M) m w (modM_lt _) hm) w) <| cR [[], [], [], [2]] <| cN) (fun _ => ?_)
   refine mt_then ?_
   refine sS Tryz.f125 2 [6] [1, 0] (fun _ => [(U (((((redN a m) + (redN b m)) % M) + M - m) % M)), undef]) (fun _ => [(1, (pwt 0 (nb ρ1 3) (cL (cU (((((redN a m) + (redN b m)) % M) + M - m) % M)) 39)))]) (cR [[1], [0]] <| cN) (fun _ => ?_)
   refine ok_ret ?_
   exact mR (v := (U (((((redN a m) + (redN b m)) % M) + M - m) % M))) (fun _ hS => ⟨congrArg (fun x => Ending.returned (U x)) (addm_2 hm hb1 hb2), hS.bel⟩)
  ·
   rw [hb2]
   refine sS Tryz.f125 7 [5, 6, 7, 29] [] (fun _ => [(.bool false), (.bool false), (U (((redN a m) + (redN b m)) % M)), (U m), (vi (cmpN (((redN a m) + (redN b m)) % M) m)), (.bool (decide (0 ≤ (cmpN (((redN a m) + (redN b m)) % M) m)))), (.bool (decide (0 ≤ (cmpN (((redN a m) + (redN b m)) % M) m))))]) (fun _ => []) (cR [[], [], [2], [0]] <| cC (f := 117) (args := fun ρ => #[(U (((redN a m) + (redN b m)) % M)), (U m)]) (v := fun ρ => (vi (cmpN (((redN a m) + (redN b m)) % M) m))) (fun _ w => (fun w => cmp_any (((redN a m) + (redN b m)) % M) m w (modM_lt _) hm) w) <| cR [[], []] <| cN) (fun _ => ?_)
   refine oC (decide (0 ≤ (cmpN (((redN a m) + (redN b m)) % M) m))) (fun hb3 => ?_) (fun hb3 => ?_)
   ·
    rw [hb3]
    refine rS Tryz.f125 7 [6, 7] [0, 1, 1] (fun _ => [(U (((redN a m) + (redN b m)) % M)), (U m), (.tuple #[(U (((((redN a m) + (redN b m)) % M) + M - m) % M)), (.bool (decide ((((redN a m) + (redN b m)) % M) < m)))]), (.tuple #[(U (((((redN a m) + (redN b m)) % M) + M - m) % M)), (.bool (decide ((((redN a m) + (redN b m)) % M) < m)))]), (U (((((redN a m) + (redN b m)) % M) + M - m) % M)), (.bool (decide ((((redN a m) + (redN b m)) % M) < m))), undef]) (fun _ => [(6, (pwt 2 (nb ρ4 10) (cL (cU (((((redN a m) + (redN b m)) % M) + M - m) % M)) 39)))]) (cR [[2], [0]] <| cC (f := 145) (args := fun ρ => #[(U (((redN a m) + (redN b m)) % M)), (U m)]) (v := fun ρ => (.tuple #[(U (((((redN a m) + (redN b m)) % M) + M - m) % M)), (.bool (decide ((((redN a m) + (redN b m)) % M) < m)))])) (fun _ w => (fun w => sub_any (((redN a m) + (redN b m)) % M) m w (modM_lt _) hm) w) <| cR [[], [], [], [2]] <| cN) (fun _ => ?_)
    refine mt_then ?_
    refine sS Tryz.f125 2 [6] [1, 0] (fun _ => [(U (((((redN a m) + (redN b m)) % M) + M - m) % M)), undef]) (fun _ => [(1, (pwt 0 (nb ρ1 3) (cL (cU (((((redN a m) + (redN b m)) % M) + M - m) % M)) 39)))]) (cR [[1], [0]] <| cN) (fun _ => ?_)
    refine ok_ret ?_
    exact mR (v := (U (((((redN a m) + (redN b m)) % M) + M - m) % M))) (fun _ hS => ⟨congrArg (fun x => Ending.returned (U x)) (addm_3t hm hb1 hb2 hb3), hS.bel⟩)
   ·
    rw [hb3]
    refine ok_skip ?_
    refine mt_then ?_
    refine sS Tryz.f125 2 [6] [0, 1, 0] (fun _ => [(U (((redN a m) + (redN b m)) % M)), undef]) (fun _ => [(1, (pwt 1 (nb ρ1 3) (cL (cU (((redN a m) + (redN b m)) % M)) 39)))]) (cR [[2], [1]] <| cN) (fun _ => ?_)
    refine ok_ret ?_
    exact mR (v := (U (((redN a m) + (redN b m)) % M))) (fun _ hS => ⟨congrArg (fun x => Ending.returned (U x)) (addm_3f hm hb1 hb2 hb3), hS.bel⟩)
theorem addmod_any (a b m : Nat) (w0 : World) (ha : a < M) (hb : b < M) (hm : m < M) : Calls Tryz.prog 125 #[U a, U b, U m] w0 (fun ε w' => ε = .returned (U (addmN a b m)) ∧ Below w0.heap.size w0 w') := addmod_w a b m ha hb hm w0
theorem mulmod_w (a : Nat) (b : Nat) (m : Nat) (ha : a < M) (hb : b < M) (hm : m < M) (w0 : World) : Calls Tryz.prog 127 #[(U a), (U b), (U m)] w0 (fun ε w' => ε = .returned (U (mulmN a b m)) ∧ Below w0.heap.size w0 w') := by
 refine Calls.of_ok (n := 33) (F := (fun _ => True)) Tryz.func127 rfl rfl rfl (by simp) (persTrue (fun _ => trivial)) ?_
 refine sS Tryz.f127 4 [3, 4, 5, 6] [] (fun ρ => [(pt (nb ρ 0)), (pt (nb ρ 1)), (pt (nb ρ 2)), (pt (nb ρ 3))]) (fun ρ => [(0, (nw ρ 0 (cL (cU a) 39))), (1, (nw ρ 1 (cL (cU b) 39))), (2, (nw ρ 2 (cL (cU m) 39))), (3, (nw ρ 3 (cL (cU 0) 39)))]) (cR [[], [], [], []] <| cN) (fun ρ1 => ?_)
 refine ok_seq ?_
 refine sS Tryz.f127 3 [3, 4, 5, 6, 14] [] (fun _ => [(U m), (U 0), (.bool (decide (m = 0)))]) (fun _ => []) (cR [[2], []] <| cB (a := fun ρ => (U m)) (b := fun ρ => (U 0)) (v := fun ρ => (.bool (decide (m = 0)))) .eql 39 (fun _ _ => eqlU m 0 hm (by decide +kernel) _) <| cN) (fun _ => ?_)
 refine oC (decide (m = 0)) (fun hb1 => ?_) (fun hb1 => ?_)
 ·
  rw [hb1]
  refine sS Tryz.f127 2 [3, 4, 5, 6] [] (fun _ => [(U 0), undef]) (fun _ => [(1, (pwt 3 (nb ρ1 3) (cL (cU 0) 39)))]) (cR [[], [3]] <| cN) (fun _ => ?_)
  refine ok_ret ?_
  refine mt_then_r ?_
  exact mR (v := (U 0)) (ps := [3,3,3,3]) (fun _ hS => ⟨congrArg (fun x => Ending.returned (U x)) (mulm_0 hb1), hS.bel⟩)
 ·
  rw [hb1]
  refine ok_skip ?_
  refine mt_then ?_
  refine sS Tryz.f127 10 [5, 6, 7, 8] [0, 0, 1, 1, 1, 1] (fun ρ => [(U a), (U b), (.tuple #[(U ((a * b) / M)), (U ((a * b) % M))]), (.tuple #[(U ((a * b) / M)), (U ((a * b) % M))]), (U ((a * b) / M)), (U ((a * b) % M)), (pt (nb ρ 6)), (pt (nb ρ 7)), undef, undef]) (fun ρ => [(6, (nw ρ 6 (cL (cU 0) 39))), (7, (nw ρ 7 (cL (cU 0) 39))), (8, (pwt 52 (nb ρ 6) (cL (cU ((a * b) / M)) 39))), (9, (pwt 60 (nb ρ 7) (cL (cU ((a * b) % M)) 39)))]) (cR [[0], [1]] <| cC (fun _ w => mul_any a b w ha hb) <| cR [[], [], [], [], [], [52], [60]] <| cN) (fun _ => ?_)
  refine sD Tryz.f127 [0, 0, 3, 0, 0, 31, 63, 127, 127, 127, 0, 0, 3327, 7679, 16383] 15 [6, 10] [0, 1, 0, 0, 0, 1] (fun ρ => [(U ((a * b) / M)), (U m), (U (redN ((a * b) / M) m)), (U ((a * b) % M)), (U m), (.tuple #[(U (divQ (redN ((a * b) / M) m) ((a * b) % M) m)), (U (divR (redN ((a * b) / M) m) ((a * b) % M) m)), (.bool (decide ((redN ((a * b) / M) m) < m)))]), (.tuple #[(U (divQ (redN ((a * b) / M) m) ((a * b) % M) m)), (U (divR (redN ((a * b) / M) m) ((a * b) % M) m)), (.bool (decide ((redN ((a * b) / M) m) < m)))]), (U (divQ (redN ((a * b) / M) m) ((a * b) % M) m)), (U (divR (redN ((a * b) / M) m) ((a * b) % M) m)), (.bool (decide ((redN ((a * b) / M) m) < m))), (pt (nb ρ 10)), (pt (nb ρ 11)), undef, undef, (.bool (decide ((redN ((a * b) / M) m) < m)))]) (fun ρ => [(10, (nw ρ 10 (cL (cU 0) 39))), (11, (nw ρ 11 (cL (cU 0) 39))), (12, (pwt 84 (nb ρ 10) (cL (cU (divQ (redN ((a * b) / M) m) ((a * b) % M) m)) 39))), (13, (pwt 92 (nb ρ 11) (cL (cU (divR (redN ((a * b) / M) m) ((a * b) % M) m)) 39)))]) (cR [[2], [0]] <| cC (fun _ w => reduce_any ((a * b) / M) m w (mulhi_lt ha hb) hm) <| cR [[3], [0]] <| cC (f := 147) (args := fun ρ => #[(U (redN ((a * b) / M) m)), (U ((a * b) % M)), (U m)]) (v := fun ρ => (.tuple #[(U (divQ (redN ((a * b) / M) m) ((a * b) % M) m)), (U (divR (redN ((a * b) / M) m) ((a * b) % M) m)), (.bool (decide ((redN ((a * b) / M) m) < m)))])) (fun _ w => (fun w => div_any (redN ((a * b) / M) m) ((a * b) % M) m w (redN_lt (mulhi_lt ha hb)) (modM_lt _) hm) w) <| cR [[], [], [], [], [], [], [84], [92], []] <| cN) (fun _ => ?_)
  refine sS Tryz.f127 2 [6] [1, 0] (fun _ => [(U (divR (redN ((a * b) / M) m) ((a * b) % M) m)), undef]) (fun _ => [(1, (pwt 0 (nb ρ1 3) (cL (cU (divR (redN ((a * b) / M) m) ((a * b) % M) m)) 39)))]) (cR [[1], [0]] <| cN) (fun _ => ?_)
  refine ok_ret ?_
  exact mR (v := (U (divR (redN ((a * b) / M) m) ((a * b) % M) m))) (fun _ hS => ⟨congrArg (fun x => Ending.returned (U x)) (mulm_1 hb1), hS.bel⟩)
theorem mulmod_any (a b m : Nat) (w0 : World) (ha : a < M) (hb : b < M) (hm : m < M) : Calls Tryz.prog 127 #[U a, U b, U m] w0 (fun ε w' => ε = .returned (U (mulmN a b m)) ∧ Below w0.heap.size w0 w') := mulmod_w a b m ha hb hm w0
theorem rmulmod_w (a : Nat) (b : Nat) (m : Nat) (ha : a < M) (hb : b < M) (hm : m < M) (w0 : World) : Calls Tryz.prog 138 #[(U a), (U b), (U m)] w0 (fun ε w' => ε = .returned (U (mulmN a b m)) ∧ Below w0.heap.size w0 w') := by
 refine Calls.of_ok (n := 34) (F := (fun _ => True)) Tryz.func138 rfl rfl rfl (by simp) (persTrue (fun _ => trivial)) ?_
 refine sS Tryz.f138 4 [3, 4, 5, 6] [] (fun ρ => [(pt (nb ρ 0)), (pt (nb ρ 1)), (pt (nb ρ 2)), (pt (nb ρ 3))]) (fun ρ => [(0, (nw ρ 0 (cL (cU a) 39))), (1, (nw ρ 1 (cL (cU b) 39))), (2, (nw ρ 2 (cL (cU m) 39))), (3, (nw ρ 3 (cL (cU 0) 39)))]) (cR [[], [], [], []] <| cN) (fun ρ1 => ?_)
 refine ok_seq ?_
 refine sS Tryz.f138 2 [3, 4, 5, 6, 13] [] (fun _ => [(U m), (.bool (decide (m = 0)))]) (fun _ => []) (cR [[2]] <| cC (fun _ w => rzero_any m w hm) <| cN) (fun _ => ?_)
 refine oC (decide (m = 0)) (fun hb1 => ?_) (fun hb1 => ?_)
 ·
  rw [hb1]
  refine sS Tryz.f138 2 [3, 4, 5, 6] [] (fun _ => [(U m), undef]) (fun _ => [(1, (pwt 3 (nb ρ1 3) (cL (cU m) 39)))]) (cR [[2], [3]] <| cN) (fun _ => ?_)
  refine ok_ret ?_
  refine mt_then_r ?_
  exact mR (v := (U m)) (ps := [3,3,3,3]) (fun _ hS => ⟨congrArg (fun x => Ending.returned (U x)) (mulm_0' hb1), hS.bel⟩)
 ·
  rw [hb1]
  refine ok_skip ?_
  refine mt_then ?_
  refine sD Tryz.f138 [0, 0, 3, 0, 0, 31, 63, 127, 255, 255, 0, 0, 3583, 8191] 14 [5, 6, 7, 8] [0, 0, 1, 1, 1, 1] (fun ρ => [(U a), (U m), (U (redN a m)), (U b), (U m), (U (redN b m)), (.tuple #[(U (((redN a m) * (redN b m)) / M)), (U (((redN a m) * (redN b m)) % M))]), (.tuple #[(U (((redN a m) * (redN b m)) / M)), (U (((redN a m) * (redN b m)) % M))]), (U (((redN a m) * (redN b m)) / M)), (U (((redN a m) * (redN b m)) % M)), (pt (nb ρ 10)), (pt (nb ρ 11)), undef, undef]) (fun ρ => [(10, (nw ρ 10 (cL (cU 0) 39))), (11, (nw ρ 11 (cL (cU 0) 39))), (12, (pwt 84 (nb ρ 10) (cL (cU (((redN a m) * (redN b m)) / M)) 39))), (13, (pwt 92 (nb ρ 11) (cL (cU (((redN a m) * (redN b m)) % M)) 39)))]) (cR [[0], [2]] <| cC (fun _ w => rreduce_any a m w ha hm) <| cR [[1], [2]] <| cC (fun _ w => rreduce_any b m w hb hm) <| cC (fun _ w => rmul_any (redN a m) (redN b m) w (redN_lt ha) (redN_lt hb)) <| cR [[], [], [], [], [], [84], [92]] <| cN) (fun _ => ?_)
  refine sS Tryz.f138 13 [6, 10] [0, 1, 0, 0, 0, 1] (fun ρ => [(U (((redN a m) * (redN b m)) / M)), (U (((redN a m) * (redN b m)) % M)), (U m), (.tuple #[(U (divQ (((redN a m) * (redN b m)) / M) (((redN a m) * (redN b m)) % M) m)), (U (divR (((redN a m) * (redN b m)) / M) (((redN a m) * (redN b m)) % M) m)), (.bool (decide ((((redN a m) * (redN b m)) / M) < m)))]), (.tuple #[(U (divQ (((redN a m) * (redN b m)) / M) (((redN a m) * (redN b m)) % M) m)), (U (divR (((redN a m) * (redN b m)) / M) (((redN a m) * (redN b m)) % M) m)), (.bool (decide ((((redN a m) * (redN b m)) / M) < m)))]), (U (divQ (((redN a m) * (redN b m)) / M) (((redN a m) * (redN b m)) % M) m)), (U (divR (((redN a m) * (redN b m)) / M) (((redN a m) * (redN b m)) % M) m)), (.bool (decide ((((redN a m) * (redN b m)) / M) < m))), (pt (nb ρ 8)), (pt (nb ρ 9)), undef, undef, (.bool (decide ((((redN a m) * (redN b m)) / M) < m)))]) (fun ρ => [(8, (nw ρ 8 (cL (cU 0) 39))), (9, (nw ρ 9 (cL (cU 0) 39))), (10, (pwt 68 (nb ρ 8) (cL (cU (divQ (((redN a m) * (redN b m)) / M) (((redN a m) * (redN b m)) % M) m)) 39))), (11, (pwt 76 (nb ρ 9) (cL (cU (divR (((redN a m) * (redN b m)) / M) (((redN a m) * (redN b m)) % M) m)) 39)))]) (cR [[2], [3], [0]] <| cC (f := 157) (args := fun ρ => #[(U (((redN a m) * (redN b m)) / M)), (U (((redN a m) * (redN b m)) % M)), (U m)]) (v := fun ρ => (.tuple #[(U (divQ (((redN a m) * (redN b m)) / M) (((redN a m) * (redN b m)) % M) m)), (U (divR (((redN a m) * (redN b m)) / M) (((redN a m) * (redN b m)) % M) m)), (.bool (decide ((((redN a m) * (redN b m)) / M) < m)))])) (fun _ w => (fun w => rdiv_any (((redN a m) * (redN b m)) / M) (((redN a m) * (redN b m)) % M) m w (mulhi_lt (redN_lt ha) (redN_lt hb)) (modM_lt _) hm) w) <| cR [[], [], [], [], [], [], [68], [76], []] <| cN) (fun _ => ?_)
  refine sS Tryz.f138 2 [6] [1, 0] (fun _ => [(U (divR (((redN a m) * (redN b m)) / M) (((redN a m) * (redN b m)) % M) m)), undef]) (fun _ => [(1, (pwt 0 (nb ρ1 3) (cL (cU (divR (((redN a m) * (redN b m)) / M) (((redN a m) * (redN b m)) % M) m)) 39)))]) (cR [[1], [0]] <| cN) (fun _ => ?_)
  refine ok_ret ?_
  exact mR (v := (U (divR (((redN a m) * (redN b m)) / M) (((redN a m) * (redN b m)) % M) m))) (fun _ hS => ⟨congrArg (fun x => Ending.returned (U x)) (mulm_2 hm hb1), hS.bel⟩)
theorem rmulmod_any (a b m : Nat) (w0 : World) (ha : a < M) (hb : b < M) (hm : m < M) : Calls Tryz.prog 138 #[U a, U b, U m] w0 (fun ε w' => ε = .returned (U (mulmN a b m)) ∧ Below w0.heap.size w0 w') := rmulmod_w a b m ha hb hm w0
theorem rshr_neg (a : Nat) (n : Int) (hn : n ≤ 0) (w0 : World) : Calls Tryz.prog 150 #[(U a), (vi n)] w0 (fun ε w' => ε = .returned (U a) ∧ Below w0.heap.size w0 w') := by
 refine Calls.of_ok (n := 34) (F := (fun _ => True)) Tryz.func150 rfl rfl rfl (by simp) (persTrue (fun _ => trivial)) ?_
 have hk0 : decide (n ≤ 0) = true := decide_eq_true hn
 refine sS Tryz.f150 2 [1, 2, 4] [] (fun ρ => [(pt (nb ρ 0)), (pt (nb ρ 1))]) (fun ρ => [(0, (nw ρ 0 (cL (cU a) 39))), (1, (nw ρ 1 (cL (cU 0) 39)))]) (cR [[], []] <| cN) (fun ρ1 => ?_)
 refine ok_seq ?_
 refine sS Tryz.f150 2 [1, 2, 4, 8] [] (fun _ => [(vi n), (.bool true)]) (fun _ => []) (cR [[]] <| cA (fun _ => (.bool true)) (fun _ => congrArg Value.bool hk0) <| cN) (fun _ => ?_)
 refine oY ?_
 refine sS Tryz.f150 2 [1, 2, 4] [] (fun _ => [(U a), undef]) (fun _ => [(1, (pwt 1 (nb ρ1 1) (cL (cU a) 39)))]) (cR [[0], [1]] <| cN) (fun _ => ?_)
 refine ok_ret ?_
 refine mt_then_r ?_
 exact mR (v := (U a)) (ps := [1,1,1,1]) (fun _ hS => ⟨rfl, hS.bel⟩)
theorem rshr_big (a : Nat) (n : Int) (hn : 256 ≤ n) (w0 : World) : Calls Tryz.prog 150 #[(U a), (vi n)] w0 (fun ε w' => ε = .returned (U 0) ∧ Below w0.heap.size w0 w') := by
 refine Calls.of_ok (n := 34) (F := (fun _ => True)) Tryz.func150 rfl rfl rfl (by simp) (persTrue (fun _ => trivial)) ?_
 have hk0 : decide (n ≤ 0) = false := decide_eq_false (by omega)
 have hk1 : decide (256 ≤ n) = true := decide_eq_true hn
 refine sS Tryz.f150 2 [1, 2, 4] [] (fun ρ => [(pt (nb ρ 0)), (pt (nb ρ 1))]) (fun ρ => [(0, (nw ρ 0 (cL (cU a) 39))), (1, (nw ρ 1 (cL (cU 0) 39)))]) (cR [[], []] <| cN) (fun ρ1 => ?_)
 refine ok_seq ?_
 refine sS Tryz.f150 2 [1, 2, 4, 8] [] (fun _ => [(vi n), (.bool false)]) (fun _ => []) (cR [[]] <| cA (fun _ => (.bool false)) (fun _ => congrArg Value.bool hk0) <| cN) (fun _ => ?_)
 refine oN ?_
 refine ok_skip ?_
 refine mt_then ?_
 refine ok_seq ?_
 refine sS Tryz.f150 2 [1, 2, 4, 11] [] (fun _ => [(vi n), (.bool true)]) (fun _ => []) (cR [[]] <| cA (fun _ => (.bool true)) (fun _ => congrArg Value.bool hk1) <| cN) (fun _ => ?_)
 refine oY ?_
 refine sS Tryz.f150 2 [1, 2, 4] [] (fun _ => [(U 0), undef]) (fun _ => [(1, (pwt 1 (nb ρ1 1) (cL (cU 0) 39)))]) (cR [[], [1]] <| cN) (fun _ => ?_)
 refine ok_ret ?_
 refine mt_then_r ?_
 exact mR (v := (U 0)) (ps := [1,1,1,1]) (fun _ hS => ⟨rfl, hS.bel⟩)
theorem run_shl1 {P : Program} {t : TypeId} (k : Nat) (h : k < 64) (w : World) : (binOp .shl t (.int .u64 1) (.int .i64 (k : Int))).run P w = .ok (.int .u64 (2 ^ k)) w := by
  rw [run_shl]
  unfold shlW
  rw [Nat.min_eq_left (by omega), Int.one_mul, pow_in k h]
theorem rshr_mid (a : Nat) (m : Nat) (ha : a < M) (_h0 : 0 < m) (_hm : m < 256) (w0 : World) : Calls Tryz.prog 150 #[(U a), (vn m)] w0 (fun ε w' => ε = .returned (U (a / 2 ^ m)) ∧ Below w0.heap.size w0 w') := by
 refine Calls.of_ok (n := 34) (F := (fun _ => True)) Tryz.func150 rfl rfl rfl (by simp) (persTrue (fun _ => trivial)) ?_
 have hk0 : decide (((m : Nat) : Int) ≤ 0) = false := decide_eq_false (by omega)
 have hk1 : decide (256 ≤ ((m : Nat) : Int)) = false := decide_eq_false (by omega)
 refine sS Tryz.f150 2 [1, 2, 4] [] (fun ρ => [(pt (nb ρ 0)), (pt (nb ρ 1))]) (fun ρ => [(0, (nw ρ 0 (cL (cU a) 39))), (1, (nw ρ 1 (cL (cU 0) 39)))]) (cR [[], []] <| cN) (fun ρ1 => ?_)
 refine ok_seq ?_
 refine sS Tryz.f150 2 [1, 2, 4, 8] [] (fun _ => [(vn m), (.bool false)]) (fun _ => []) (cR [[]] <| cA (fun _ => (.bool false)) (fun _ => congrArg Value.bool hk0) <| cN) (fun _ => ?_)
 refine oN ?_
 refine ok_skip ?_
 refine mt_then ?_
 refine ok_seq ?_
 refine sS Tryz.f150 2 [1, 2, 4, 11] [] (fun _ => [(vn m), (.bool false)]) (fun _ => []) (cR [[]] <| cA (fun _ => (.bool false)) (fun _ => congrArg Value.bool hk1) <| cN) (fun _ => ?_)
 refine oN ?_
 refine ok_skip ?_
 refine mt_then ?_
 refine sS Tryz.f150 1 [1, 2, 4, 5] [] (fun ρ => [(pt (nb ρ 0))]) (fun ρ => [(0, (nw ρ 0 (cL (cU 0) 39)))]) (cR [[]] <| cN) (fun ρ4 => ?_)
 refine ok_seq ?_
 refine sS Tryz.f150 1 [1, 2, 4, 5, 6] [] (fun _ => [(vi 0)]) (fun _ => []) (cR [[]] <| cN) (fun _ => ?_)
 refine ok_block ?_
 refine oL (σ := Nat × Nat) (fun ⟨i, _⟩ => [(1, (vn m)), (2, (pt (nb ρ1 0))), (4, (pt (nb ρ1 1))), (5, (pt (nb ρ4 0))), (6, (vn i))]) (fun ⟨_, b⟩ => [(nb ρ1 0, (cL (cU a) 39)), (nb ρ1 1, (cL (cU 0) 39)), (nb ρ4 0, (cL (cU b) 39))]) (fun ⟨i, _⟩ => 256 - i)
   (fun ⟨i, b⟩ => (i + m ≤ 256) ∧ (b = a / 2 ^ m % 2 ^ i)) (0, 0) (⟨by omega, by simp [Nat.mod_one]⟩) [] ?_
 rintro ⟨i, b⟩ ⟨hi, hb⟩
 change Ok Tryz.prog _ _ 34 [(1, (vn m)), (2, (pt (nb ρ1 0))), (4, (pt (nb ρ1 1))), (5, (pt (nb ρ4 0))), (6, (vn i))] _ [(nb ρ1 0, (cL (cU a) 39)), (nb ρ1 1, (cL (cU 0) 39)), (nb ρ4 0, (cL (cU b) 39))] (fun _ => True)
 refine ok_seq ?_
 refine sS Tryz.f150 4 [1, 2, 4, 5, 6, 16] [] (fun _ => [(vn i), (vn m), (vn (i + m)), (.bool (decide (((i + m : Nat) : Int) < 256)))]) (fun _ => []) (cR [[], []] <| cA (v := fun ρ => (vi (IntKind.i64.wrap (((i : Nat) : Int) + ((m : Nat) : Int))))) (fun _ => (vn (i + m))) (fun _ => congrArg (Value.int .i64) (wrap_add_nat i m (by have := hi; omega))) <| cR [[]] <| cN) (fun _ => ?_)
 refine oC (decide (((i + m : Nat) : Int) < 256)) (fun hb1 => ?_) (fun hb1 => ?_)
 ·
  rw [hb1]
  refine ok_skip ?_
  refine mt_then ?_
  refine ok_seq ?_
  refine ok_block ?_
  refine sS Tryz.f150 5 [1, 2, 4, 5, 6, 23] [] (fun _ => [(U a), (vn i), (vn m), (vn (i + m)), (.bool (bitN a (i + m)))]) (fun _ => []) (cR [[0], [], []] <| cA (v := fun ρ => (vi (IntKind.i64.wrap (((i : Nat) : Int) + ((m : Nat) : Int))))) (fun _ => (vn (i + m))) (fun _ => congrArg (Value.int .i64) (wrap_add_nat i m (by have := hi; omega))) <| cC (fun _ w => rbit_any a (i + m) w (by have := yT hb1; omega)) <| cN) (fun _ => ?_)
  refine oC (bitN a (i + m)) (fun hb2 => ?_) (fun hb2 => ?_)
  ·
   rw [hb2]
   refine rD Tryz.f150 [0, 1, 3, 7, 0, 16, 48, 127, 255, 511] 10 [1, 2, 4, 5, 6] [] (fun _ => [(vn i), (vn (i / 64)), (.pointer (some ⟨nb ρ4 0, i / 64, none⟩)), (.int .u64 (wd b (i / 64))), (vn i), (vn (i % 64)), (.int .u64 ((2 : Int) ^ (i % 64))), (.int .u64 (bits .or .u64 (wd b (i / 64)) ((2 : Int) ^ (i % 64)))), (.pointer (some ⟨nb ρ4 0, i / 64, none⟩)), undef]) (fun _ => [(9, (pwt 2 (nb ρ4 0) (cL (cU (b + 2 ^ (64 * (i / 64) + i % 64))) 39)))]) (cR [[]] <| cB (a := fun ρ => (vn i)) (b := fun ρ => (vi 64)) (v := fun ρ => (vn (i / 64))) .quo 3 (fun _ w => run_quo_nat i 64 (i / 64) (by decide) (by have := hi; omega) rfl w) <| cX (o_sem _ (fun _ => do pure (Next.value (← Instr.indexAt 39 (pt (nb ρ4 0)) (vn (i / 64))))) (fun _ => (.pointer (some ⟨nb ρ4 0, i / 64, none⟩))) (fun _ => by kernel_rfl) (fun _ => by kernel_rfl) (fun _ w => run_idx_nat (n := ((i / 64 : Nat) : Int)) (i := i / 64) Tryz.underlying39 Tryz.sizeOf37 (⟨rfl, by have := yT hb1; omega⟩) w)) <| cX (o_ld _ 2 37 (fun _ => nb ρ4 0) (fun _ => i / 64) (fun _ => (cU b)) 39 (0, 0) (fun _ => (.int .u64 (wd b (i / 64)))) (fun _ => by kernel_rfl) Tryz.isAgg37 (fun _ => cU_get b (i / 64) (by have := yT hb1; omega))) <| cR [[]] <| cB (a := fun ρ => (vn i)) (b := fun ρ => (vi 64)) (v := fun ρ => (vn (i % 64))) .rem 3 (fun _ w => run_rem_nat i 64 (i % 64) (by decide) rfl w) <| cB (a := fun ρ => (.int .u64 1)) (b := fun ρ => (vn (i % 64))) (v := fun ρ => (.int .u64 ((2 : Int) ^ (i % 64)))) .shl 37 (fun _ w => run_shl1 (i % 64) (by omega) w) <| cR [[]] <| cX (o_sem _ (fun _ => do pure (Next.value (← Instr.indexAt 39 (pt (nb ρ4 0)) (vn (i / 64))))) (fun _ => (.pointer (some ⟨nb ρ4 0, i / 64, none⟩))) (fun _ => by kernel_rfl) (fun _ => by kernel_rfl) (fun _ w => run_idx_nat (n := ((i / 64 : Nat) : Int)) (i := i / 64) Tryz.underlying39 Tryz.sizeOf37 (⟨rfl, by have := yT hb1; omega⟩) w)) <| cX (o_st _ 2 37 (fun _ => nb ρ4 0) (fun _ => i / 64) (fun _ => (cU b)) (fun _ => (cU (b + 2 ^ (64 * (i / 64) + i % 64)))) 39 (fun _ => (.int .u64 (bits .or .u64 (wd b (i / 64)) ((2 : Int) ^ (i % 64))))) (fun _ => by kernel_rfl) Tryz.sizeOf37 (fun _ => rfl) (fun _ => (show _ < 4 from by have := yT hb1; omega)) (fun _ => setlow_row b (i / 64) (i % 64) (by have := yT hb1; omega) (by omega) (by rw [hb, show 64 * (i / 64) + i % 64 = i by omega]; exact Nat.mod_lt _ (Nat.pow_pos (by decide))))) <| cN) (fun _ => ?_)
   refine mt_block_n ?_
   refine mt_then ?_
   refine rS Tryz.f150 3 [1, 2, 4, 5, 6] [] (fun _ => [(vn i), (vn (i + 1)), (vn (i + 1))]) (fun _ => []) (cR [[]] <| cA (v := fun ρ => (vi (IntKind.i64.wrap (((i : Nat) : Int) + 1)))) (fun _ => (vn (i + 1))) (fun _ => congrArg (Value.int .i64) (wrap_add_nat i 1 (by have := hi; omega))) <| cR [[]] <| cN) (fun _ => ?_)
   exact mN (i + 1, b + 2 ^ (64 * (i / 64) + i % 64)) (by show 256 - (i + 1) < 256 - i; have := yT hb1; omega) (⟨by have := yT hb1; omega, by rw [low_next, hb]; have h2 := hb2; unfold bitN at h2; rw [shr_bit] at h2; rw [if_pos (yT h2), show 64 * (i / 64) + i % 64 = i by omega]⟩) []
  ·
   rw [hb2]
   refine ok_skip ?_
   refine mt_block_n ?_
   refine mt_then ?_
   refine rS Tryz.f150 3 [1, 2, 4, 5, 6] [] (fun _ => [(vn i), (vn (i + 1)), (vn (i + 1))]) (fun _ => []) (cR [[]] <| cA (v := fun ρ => (vi (IntKind.i64.wrap (((i : Nat) : Int) + 1)))) (fun _ => (vn (i + 1))) (fun _ => congrArg (Value.int .i64) (wrap_add_nat i 1 (by have := hi; omega))) <| cR [[]] <| cN) (fun _ => ?_)
   exact mN (i + 1, b) (by show 256 - (i + 1) < 256 - i; have := yT hb1; omega) (⟨by have := yT hb1; omega, by rw [low_next, hb]; have h2 := hb2; unfold bitN at h2; rw [shr_bit] at h2; rw [if_neg (yF h2), Nat.add_zero]⟩) []
 ·
  rw [hb1]
  refine ok_exit ?_
  refine mt_then_e ?_
  refine mt_then_e ?_
  refine mt_block_h ?_
  refine mt_then ?_
  refine sS Tryz.f150 2 [4] [0, 1, 0] (fun _ => [(U b), undef]) (fun _ => [(1, (pwt 1 (nb ρ1 1) (cL (cU b) 39)))]) (cR [[2], [1]] <| cN) (fun _ => ?_)
  refine ok_ret ?_
  exact mR (v := (U b)) (fun _ hS => ⟨congrArg (fun x => Ending.returned (U x)) (by rw [hb]; exact shr_all ha (by have := yF hb1; omega)), hS.bel⟩)
theorem rshr_any (a : Nat) (n : Int) (w0 : World) (ha : a < M) : Calls Tryz.prog 150 #[U a, .int .i64 n] w0 (fun ε w' => ε = .returned (U (shrZ a n)) ∧ Below w0.heap.size w0 w') := by
  unfold shrZ
  by_cases h0 : n < 0
  · rw [if_pos h0]; exact rshr_neg a n (by omega) w0
  · rw [if_neg h0]
    by_cases h1 : 256 ≤ n
    · rw [shrN_big ha (by omega)]; exact rshr_big a n h1 w0
    · obtain ⟨k, rfl⟩ := Int.eq_ofNat_of_zero_le (by omega : 0 ≤ n)
      rw [Int.toNat_natCast]
      by_cases hk : k = 0
      · subst hk; rw [Nat.pow_zero, Nat.div_one]; exact rshr_neg a _ (by omega) w0
      · exact rshr_mid a k ha (by omega) (by omega) w0
theorem rexpmod_w (a : Nat) (e : Nat) (m : Nat) (ha : a < M) (he : e < M) (hm : m < M) (w0 : World) : Calls Tryz.prog 149 #[(U a), (U e), (U m)] w0 (fun ε w' => ε = .returned (U (expmN a e m)) ∧ Below w0.heap.size w0 w') := by
 refine Calls.of_ok (n := 34) (F := (fun _ => True)) Tryz.func149 rfl rfl rfl (by simp) (persTrue (fun _ => trivial)) ?_
 refine sS Tryz.f149 4 [3, 4, 5, 6] [] (fun ρ => [(pt (nb ρ 0)), (pt (nb ρ 1)), (pt (nb ρ 2)), (pt (nb ρ 3))]) (fun ρ => [(0, (nw ρ 0 (cL (cU a) 39))), (1, (nw ρ 1 (cL (cU e) 39))), (2, (nw ρ 2 (cL (cU m) 39))), (3, (nw ρ 3 (cL (cU 0) 39)))]) (cR [[], [], [], []] <| cN) (fun ρ1 => ?_)
 refine ok_seq ?_
 refine sS Tryz.f149 2 [3, 4, 5, 6, 10] [] (fun _ => [(U m), (.bool (decide (m = 0)))]) (fun _ => []) (cR [[2]] <| cC (fun _ w => rzero_any m w hm) <| cN) (fun _ => ?_)
 refine oC (decide (m = 0)) (fun hb1 => ?_) (fun hb1 => ?_)
 ·
  rw [hb1]
  refine sS Tryz.f149 2 [3, 4, 5, 6] [] (fun _ => [(U m), undef]) (fun _ => [(1, (pwt 3 (nb ρ1 3) (cL (cU m) 39)))]) (cR [[2], [3]] <| cN) (fun _ => ?_)
  refine ok_ret ?_
  refine mt_then_r ?_
  exact mR (v := (U m)) (ps := [3,3,3,3]) (fun _ hS => ⟨congrArg (fun x => Ending.returned (U x)) (expm_0' hb1), hS.bel⟩)
 ·
  rw [hb1]
  refine ok_skip ?_
  refine mt_then ?_
  refine sD Tryz.f149 [0, 0, 3, 0, 15] 5 [3, 4, 5, 6, 7] [] (fun ρ => [(U 1), (U m), (U (redN 1 m)), (pt (nb ρ 3)), undef]) (fun ρ => [(3, (nw ρ 3 (cL (cU 0) 39))), (4, (pwt 28 (nb ρ 3) (cL (cU (redN 1 m)) 39)))]) (cC (fun _ w => rfromuint_lit 1 w (by decide)) <| cR [[2]] <| cC (fun _ w => rreduce_any 1 m w (by decide +kernel) hm) <| cR [[], [28]] <| cN) (fun ρ4 => ?_)
  refine ok_seq ?_
  refine sS Tryz.f149 4 [3, 4, 5, 6, 7, 8] [] (fun _ => [(U e), (vn (lenN e)), (vi (((lenN e : Nat) : Int) - 1)), (vi (((lenN e : Nat) : Int) - 1))]) (fun _ => []) (cR [[1]] <| cC (fun _ w => rlen_any e w he) <| cA (v := fun ρ => (vi (IntKind.i64.wrap (((lenN e : Nat) : Int) - 1)))) (fun _ => (vi (((lenN e : Nat) : Int) - 1))) (fun _ => congrArg (Value.int .i64) (wrap_pred (by have := lenN_le e he; omega))) <| cR [[]] <| cN) (fun _ => ?_)
  refine ok_block ?_
  refine oL (σ := Nat × Nat) (fun ⟨k, _⟩ => [(3, (pt (nb ρ1 0))), (4, (pt (nb ρ1 1))), (5, (pt (nb ρ1 2))), (6, (pt (nb ρ1 3))), (7, (pt (nb ρ4 3))), (8, (vi (((k : Nat) : Int) - 1)))]) (fun ⟨_, p⟩ => [(nb ρ1 0, (cL (cU a) 39)), (nb ρ1 1, (cL (cU e) 39)), (nb ρ1 2, (cL (cU m) 39)), (nb ρ1 3, (cL (cU 0) 39)), (nb ρ4 3, (cL (cU p) 39))]) (fun ⟨k, _⟩ => k)
    (fun ⟨k, p⟩ => (k ≤ 256) ∧ (p = a ^ (e / 2 ^ k) % m)) (lenN e, redN 1 m) (⟨lenN_le e he, exp_start hb1⟩) [] ?_
  rintro ⟨k, p⟩ ⟨hk, hp⟩
  change Ok Tryz.prog _ _ 34 [(3, (pt (nb ρ1 0))), (4, (pt (nb ρ1 1))), (5, (pt (nb ρ1 2))), (6, (pt (nb ρ1 3))), (7, (pt (nb ρ4 3))), (8, (vi (((k : Nat) : Int) - 1)))] _ [(nb ρ1 0, (cL (cU a) 39)), (nb ρ1 1, (cL (cU e) 39)), (nb ρ1 2, (cL (cU m) 39)), (nb ρ1 3, (cL (cU 0) 39)), (nb ρ4 3, (cL (cU p) 39))] (fun _ => True)
  have hpM : p < M := exp_lt hm hb1 hp
  refine ok_seq ?_
  refine sS Tryz.f149 2 [3, 4, 5, 6, 7, 8, 19] [] (fun _ => [(vi (((k : Nat) : Int) - 1)), (.bool (decide (0 ≤ (((k : Nat) : Int) - 1))))]) (fun _ => []) (cR [[], []] <| cN) (fun _ => ?_)
  refine oC (decide (0 ≤ (((k : Nat) : Int) - 1))) (fun hb2 => ?_) (fun hb2 => ?_)
  ·
   rw [hb2]
   refine ok_skip ?_
   refine mt_then ?_
   refine ok_seq ?_
   refine ok_block ?_
   refine sS Tryz.f149 5 [3, 4, 5, 6, 7, 8] [] (fun _ => [(U p), (U p), (U m), (U (mulmN p p m)), undef]) (fun _ => [(4, (pwt 4 (nb ρ4 3) (cL (cU (mulmN p p m)) 39)))]) (cR [[4], [4], [2]] <| cC (fun _ w => rmulmod_any p p m w hpM hpM hm) <| cR [[4]] <| cN) (fun _ => ?_)
   refine sS Tryz.f149 3 [3, 4, 5, 6, 7, 8, 28] [] (fun _ => [(U e), (vi (((k : Nat) : Int) - 1)), (.bool (bitN e (k - 1)))]) (fun _ => []) (cR [[1], []] <| cC (f := 164) (args := fun ρ => #[(U e), (vi (((k : Nat) : Int) - 1))]) (v := fun ρ => (.bool (bitN e (k - 1)))) (fun _ w => (fun w => rbit_at e (k - 1) _ (by have h1 := yT hb2; omega) w (by have h1 := yT hb2; have := hk; omega)) w) <| cN) (fun _ => ?_)
   refine oC (bitN e (k - 1)) (fun hb3 => ?_) (fun hb3 => ?_)
   ·
    rw [hb3]
    refine rS Tryz.f149 5 [3, 4, 5, 6, 7, 8] [] (fun _ => [(U (mulmN p p m)), (U a), (U m), (U (mulmN (mulmN p p m) a m)), undef]) (fun _ => [(4, (pwt 4 (nb ρ4 3) (cL (cU (mulmN (mulmN p p m) a m)) 39)))]) (cR [[4], [0], [2]] <| cC (f := 138) (args := fun ρ => #[(U (mulmN p p m)), (U a), (U m)]) (v := fun ρ => (U (mulmN (mulmN p p m) a m))) (fun _ w => (fun w => rmulmod_any (mulmN p p m) a m w (mulmN_lt _ _ hm) ha hm) w) <| cR [[4]] <| cN) (fun _ => ?_)
    refine mt_block_n ?_
    refine mt_then ?_
    refine rS Tryz.f149 3 [3, 4, 5, 6, 7, 8] [] (fun _ => [(vi (((k : Nat) : Int) - 1)), (vi (((k - 1 : Nat) : Int) - 1)), (vi (((k - 1 : Nat) : Int) - 1))]) (fun _ => []) (cR [[]] <| cA (v := fun ρ => (vi (IntKind.i64.wrap ((((k : Nat) : Int) - 1) - 1)))) (fun _ => (vi (((k - 1 : Nat) : Int) - 1))) (fun _ => congrArg (Value.int .i64) (wrap_down (by have h1 := yT hb2; omega) (by have := hk; omega))) <| cR [[]] <| cN) (fun _ => ?_)
    exact mN (k - 1, mulmN (mulmN p p m) a m) (by show k - 1 < k; have h1 := yT hb2; omega) (⟨by have := hk; omega, by rw [exp_step1 hp (redN_pos (a := 0) hb1).2.1, half_odd (by have h1 := yT hb2; omega) hb3]⟩) []
   ·
    rw [hb3]
    refine ok_skip ?_
    refine mt_block_n ?_
    refine mt_then ?_
    refine rS Tryz.f149 3 [3, 4, 5, 6, 7, 8] [] (fun _ => [(vi (((k : Nat) : Int) - 1)), (vi (((k - 1 : Nat) : Int) - 1)), (vi (((k - 1 : Nat) : Int) - 1))]) (fun _ => []) (cR [[]] <| cA (v := fun ρ => (vi (IntKind.i64.wrap ((((k : Nat) : Int) - 1) - 1)))) (fun _ => (vi (((k - 1 : Nat) : Int) - 1))) (fun _ => congrArg (Value.int .i64) (wrap_down (by have h1 := yT hb2; omega) (by have := hk; omega))) <| cR [[]] <| cN) (fun _ => ?_)
    exact mN (k - 1, mulmN p p m) (by show k - 1 < k; have h1 := yT hb2; omega) (⟨by have := hk; omega, by rw [exp_step hp (redN_pos (a := 0) hb1).2.1, half_even (by have h1 := yT hb2; omega) hb3]⟩) []
  ·
   rw [hb2]
   refine ok_exit ?_
   refine mt_then_e ?_
   refine mt_then_e ?_
   refine mt_block_h ?_
   refine mt_then ?_
   refine sS Tryz.f149 2 [6] [0, 0, 0, 1, 0] (fun _ => [(U p), undef]) (fun _ => [(1, (pwt 3 (nb ρ1 3) (cL (cU p) 39)))]) (cR [[4], [3]] <| cN) (fun _ => ?_)
   refine ok_ret ?_
   exact mR (v := (U p)) (fun _ hS => ⟨congrArg (fun x => Ending.returned (U x)) (exp_end (k := k) hb1 (by have h1 := yF hb2; omega) hp), hS.bel⟩)
theorem rexpmod_any (a e m : Nat) (w0 : World) (ha : a < M) (he : e < M) (hm : m < M) : Calls Tryz.prog 149 #[U a, U e, U m] w0 (fun ε w' => ε = .returned (U (expmN a e m)) ∧ Below w0.heap.size w0 w') := rexpmod_w a e m ha he hm w0
theorem hB_step {A k : Nat} {C : Array Value} {v : Int} (hC : C.size = 32) (hk : k < 32) (hj : ∀ j, j < k → C[j]? = some (.int .u8 (byt A j))) (hv : v = byt A k) :
    (C.setIfInBounds k (.int .u8 v)).size = 32 ∧ ∀ j, j < k + 1 → (C.setIfInBounds k (.int .u8 v))[j]? = some (.int .u8 (byt A j)) := by
  refine ⟨by simpa using hC, fun j h => ?_⟩
  by_cases e : j = k
  · subst e; rw [hv]; simp [hC, hk]
  · rw [Array.getElem?_setIfInBounds_ne (fun x => e x.symm)]; exact hj j (by omega)
theorem size_hash {C : Array Value} (h : C.size = 32) : (Tryz.prog.info? 43).map (·.size) = some C.size := by rw [h]; kernel_rfl
set_option maxHeartbeats 1000000 in
set_option maxRecDepth 100000 in
theorem bytes_any (A : Nat) (w : World) :
    Calls Tryz.prog 79 #[U A] w fun e w' => e = .returned (.agg (hB A)) ∧ Below w.heap.size w w' := by
  go_enter Tryz.func79, Tryz.ntmps79
  go_wp2
  obtain ⟨Z, hZ⟩ : ∃ Z : Array Value, Z = #[Value.int IntKind.u8 0, Value.int IntKind.u8 0, Value.int IntKind.u8 0, Value.int IntKind.u8 0, Value.int IntKind.u8 0, Value.int IntKind.u8 0, Value.int IntKind.u8 0, Value.int IntKind.u8 0, Value.int IntKind.u8 0, Value.int IntKind.u8 0, Value.int IntKind.u8 0, Value.int IntKind.u8 0, Value.int IntKind.u8 0, Value.int IntKind.u8 0, Value.int IntKind.u8 0, Value.int IntKind.u8 0, Value.int IntKind.u8 0, Value.int IntKind.u8 0, Value.int IntKind.u8 0, Value.int IntKind.u8 0, Value.int IntKind.u8 0, Value.int IntKind.u8 0, Value.int IntKind.u8 0, Value.int IntKind.u8 0, Value.int IntKind.u8 0, Value.int IntKind.u8 0, Value.int IntKind.u8 0, Value.int IntKind.u8 0, Value.int IntKind.u8 0, Value.int IntKind.u8 0, Value.int IntKind.u8 0, Value.int IntKind.u8 0] := ⟨_, rfl⟩
  rw [← hZ]
  have hz : Z.size = 32 := by rw [hZ]; rfl
  clear hZ
  go_loopw [5] (fun i wr => ∃ (k : Nat) (C : Array Value), k ≤ 32 ∧ i = .int .i64 k ∧ C.size = 32 ∧ (∀ j, j < k → C[j]? = some (.int .u8 (byt A j))) ∧ wr = ((w.alloc (.cells #[.int .u64 (wd A 0), .int .u64 (wd A 1), .int .u64 (wd A 2), .int .u64 (wd A 3)] 39)).alloc (.cells Z 43)).alloc (.cells C 43)) (fun i _ => 32 - (intOf i).toNat)
  case atStart => exact ⟨0, Z, by omega, rfl, hz, fun j hj => by omega, rfl⟩
  case round =>
    obtain ⟨k, C, hk, rfl, hC, hj, rfl⟩ := hrel
    have HC := Lib.hid hC; have HJ := Lib.hid hj; have HZ := Lib.hid hz
    clear hC hj hz
    by_cases hlt : k < 32
    · have hC2 : k < C.size := by have := HC.out; omega
      rcases (by omega : (k : Int) / 8 = 0 ∨ (k : Int) / 8 = 1 ∨ (k : Int) / 8 = 2 ∨ (k : Int) / 8 = 3) with h8 | h8 | h8 | h8
      all_goals
        go_wp2
        go_roundw
        case rel =>
          first | (obtain ⟨g1, g2⟩ := hB_step HC.out hlt HJ.out (byt_wd A 3 k hlt (by omega)); exact ⟨k + 1, _, by omega, by go_num, g1, g2, rfl⟩) | (obtain ⟨g1, g2⟩ := hB_step HC.out hlt HJ.out (byt_wd A 2 k hlt (by omega)); exact ⟨k + 1, _, by omega, by go_num, g1, g2, rfl⟩) | (obtain ⟨g1, g2⟩ := hB_step HC.out hlt HJ.out (byt_wd A 1 k hlt (by omega)); exact ⟨k + 1, _, by omega, by go_num, g1, g2, rfl⟩) | (obtain ⟨g1, g2⟩ := hB_step HC.out hlt HJ.out (byt_wd A 0 k hlt (by omega)); exact ⟨k + 1, _, by omega, by go_num, g1, g2, rfl⟩)
        case measure => simp [intOf]; omega
    · go_wp2_with (first | (refine wl_load (w.heap.size + 1 + 1) 43 C _ rfl (hp_3_2 _ _ _ _) Tryz.underlying43 rfl (size_hash HC.out) ?_) | (refine wl_store (w.heap.size + 1) 43 Z C rfl rfl (hp_3_1 _ _ _ _) (size_hash HC.out) (HZ.out.trans HC.out.symm) (by rw [hB_ext HC.out (fun j h => HJ.out j (by omega))]; exact hB_one A) ?_))
      rw [sr_3_1]
      refine bodyPost_ret (results_cell_row rfl _ _ (w.heap.size + 1) 43 C (0, 0) _ rfl (hp_3_1 _ _ _ _) Tryz.underlying43 rfl (size_hash HC.out)) rfl ?_
      refine ⟨by rw [hB_ext HC.out (fun j h => HJ.out j (by omega))], ?_⟩
      (repeat' (first | (with_reducible exact Below.refl _ _) | (with_reducible assumption) | (with_reducible refine below_drewN ?_ _) | (with_reducible refine Below.drew ?_) | (with_reducible refine Below.setCell ?_ ?_ _) | (with_reducible refine Below.alloc ?_ ?_ _) | (with_reducible exact Nat.le_refl _) | omega | (simp; omega) | (simp; done)))
theorem run_index_hash (A k : Nat) (hk : k < 32) (w : World) : (Instr.index 43 (.agg (hB A)) (.int .i64 k)).run Tryz.prog w = .ok (.int .u8 (byt A k)) w := by
  have h := hB_get A k hk
  have h0 : (0 : Int) ≤ (k : Int) ∧ (k : Int) < 32 := by omega
  simp [Instr.index, go_sem, part, h, h0, hk]
set_option maxHeartbeats 1000000 in
set_option maxRecDepth 100000 in
theorem frombytes_any (A : Nat) (w : World) :
    Calls Tryz.prog 126 #[.agg (hB A)] w fun e w' => e = .returned (U A) ∧ Below w.heap.size w w' := by
  go_enter Tryz.func126, Tryz.ntmps126
  go_wp2_with (refine wl_load (w.heap.size) 43 (hB A) _ rfl (hp_3_0 _ _ _ _) Tryz.underlying43 rfl (size_hash (hB_size A)) ?_)
  go_loopw [8] (fun i wr => ∃ (k : Nat), k ≤ 32 ∧ i = .int .i64 k ∧ wr = ((w.alloc (.cells (hB A) 43)).alloc (.cells #[.int .u64 0, .int .u64 0, .int .u64 0, .int .u64 0] 39)).alloc (.cells #[.int .u64 (pre A 0 k), .int .u64 (pre A 1 k), .int .u64 (pre A 2 k), .int .u64 (pre A 3 k)] 39)) (fun i _ => 32 - (intOf i).toNat)
  case atStart => exact ⟨0, by omega, rfl, by rw [pre_start A 0 0 (by omega), pre_start A 1 0 (by omega), pre_start A 2 0 (by omega), pre_start A 3 0 (by omega)]⟩
  case round =>
    obtain ⟨k, hk, rfl, rfl⟩ := hrel
    by_cases hlt : k < 32
    · have hidx := run_index_hash A k hlt
      rcases (by omega : (k : Int) / 8 = 0 ∨ (k : Int) / 8 = 1 ∨ (k : Int) / 8 = 2 ∨ (k : Int) / 8 = 3) with h8 | h8 | h8 | h8
      all_goals
        go_wp2
        go_roundw
        case rel =>
          refine ⟨k + 1, by omega, by go_num, ?_⟩
          first
            | rw [pre_step A 3 k hlt (by omega), pre_other A 0 k (by omega) (by omega), pre_other A 1 k (by omega) (by omega), pre_other A 2 k (by omega) (by omega)]
            | rw [pre_step A 2 k hlt (by omega), pre_other A 0 k (by omega) (by omega), pre_other A 1 k (by omega) (by omega), pre_other A 3 k (by omega) (by omega)]
            | rw [pre_step A 1 k hlt (by omega), pre_other A 0 k (by omega) (by omega), pre_other A 2 k (by omega) (by omega), pre_other A 3 k (by omega) (by omega)]
            | rw [pre_step A 0 k hlt (by omega), pre_other A 1 k (by omega) (by omega), pre_other A 2 k (by omega) (by omega), pre_other A 3 k (by omega) (by omega)]
        case measure => simp [intOf]; omega
    · obtain rfl : k = 32 := by omega
      rw [pre_end A 0 (by omega), pre_end A 1 (by omega), pre_end A 2 (by omega), pre_end A 3 (by omega)]
      go_wp2
      go_returns
      refine ⟨rfl, ?_⟩
      (repeat' (first | (with_reducible exact Below.refl _ _) | (with_reducible assumption) | (with_reducible refine below_drewN ?_ _) | (with_reducible refine Below.drew ?_) | (with_reducible refine Below.setCell ?_ ?_ _) | (with_reducible refine Below.alloc ?_ ?_ _) | (with_reducible exact Nat.le_refl _) | omega | (simp; omega) | (simp; done)))
end Go.Proofs.YtaebcmpbbamfpaaGreatDoor
