/-
  What the walks of this seat share, part 6: the texts of it, one behind the other.
-/
import Derived.Test.YtjdhjkceahaegaaDoorBase5
set_option maxRecDepth 100000

/-! Rows of elements of any size: append, and what it leaves. -/
namespace Go.Proofs.YtjdhjkceahaegaaDoor
open Go Go.RowKit

/-- A type whose values fill sz cells. -/
def elike (P : Program) (e : TypeId) (sz b : Nat) (z : Value) : Prop := ∃ i, P.info? e = some i ∧ i.size = sz ∧ i.bytes = b ∧ i.zero = some z ∧ z.cells.size = sz
theorem elike_of {P : Program} {e : TypeId} {sz b : Nat} {z : Value} (h : (P.info? e).map (fun i => (i.size, i.bytes, i.zero)) = some (sz, b, some z)) (hz : z.cells.size = sz) : elike P e sz b z := by
  rw [Option.map_eq_some_iff] at h
  obtain ⟨i, h1, h2⟩ := h
  simp only [Prod.mk.injEq] at h2
  exact ⟨i, h1, h2.1, h2.2.1, h2.2.2, hz⟩
/-- A row that begins with the cells xs of n elements, with room for c. -/
structure Av (C : Array Value) (sz n : Nat) (xs : List Value) (c : Nat) : Prop where
  hd : C.toList.take xs.length = xs
  len : xs.length = n * sz
  le : n ≤ c
  size : C.size = c * sz
theorem zeroCells_size (z : Array Value) (k : Nat) : (Builtin.zeroCells z k).size = k * z.size := by simp [Builtin.zeroCells]
section
variable {P : Program} {t e : TypeId} {sz b : Nat} {z : Value}
theorem appV_room {w : World} {ty tx : TypeId} (ht : P.underlying t = some (.slice e)) (hi : elike P e sz b z) {g n m c : Nat} {C : Array Value} {x : Value} {xs ys : List Value} (hA : Av C sz n xs c) (hg : w.heap[g]? = some (.cells C e (0, 0)))
    (hs : Src P sz tx x m ys w) (hr : n + m ≤ c) :
    ∃ w', (do pure (Next.value (← Builtin.append_ #[t, tx] ty #[.slice (some ⟨g, 0, none⟩) n c, x])) : Sem Next).run P w = .ok (.value (.slice (some ⟨g, 0, none⟩) (n + m) c)) w' ∧ Wrote w w' g (.cells (inpl C (n * sz) ys) e (0, 0)) := by
  obtain ⟨i, h1, h2, h3, h4, h5⟩ := hi
  refine ⟨_, ?_, wrote_row hg⟩
  have hfit : n * sz + ys.length ≤ C.size := by rw [hs.newsLen, hA.size, ← Nat.add_mul]; exact Nat.mul_le_mul_right _ hr
  have hst := run_storeCells_at P g (n * sz) e ys 0 C w hg (by omega) hs.one
  simp only [Nat.add_zero] at hst
  have hrun : (Builtin.append_ #[t, tx] ty #[.slice (some ⟨g, 0, none⟩) n c, x]).run P w = .ok (.slice (some ⟨g, 0, none⟩) (n + m) c) (w.setRow g (inpl C (n * sz) ys)) := by
    unfold inpl
    rcases hs.kind with ⟨e', hk⟩ | hk <;> simp [Builtin.append_, run_underlying ht, run_underlying hk, sizeOf, typeInfo, h1, h2, hs.len, hr, hs.cells, Addr.add_lit, hst]
  rw [Sem.run_bind, hrun]
  rfl
theorem appV_grow {w : World} {ty tx : TypeId} (ht : P.underlying t = some (.slice e)) (hi : elike P e sz b z) {a : Option Addr} {n m c : Nat} {olds : List Value} {x : Value} {ys : List Value}
    (ho : (Builtin.firstCells sz n (.slice a n c)).run P w.drew = .ok olds.toArray w.drew) (hs : Src P sz tx x m ys w) (hr : c < n + m) (hm : n + m ≤ 140737488351232) (hmb : (n + m) * b ≤ 140737488351232) :
    ∃ k w', (do pure (Next.value (← Builtin.append_ #[t, tx] ty #[.slice a n c, x])) : Sem Next).run P w = .ok (.value (.slice (some ⟨w.heap.size, 0, none⟩) (n + m) (n + m + k))) w' ∧ Grew w w' (.cells ((olds ++ ys).toArray ++ Builtin.zeroCells z.cells k) e (0, 0)) := by
  obtain ⟨i, h1, h2, h3, h4, h5⟩ := hi
  have hge := grownCap_ge w (n + m) c e
  have hs2 : Src P i.size tx x m ys w := by rw [h2]; exact hs
  have hrun := run_append_grow_src (P := P) w t tx ty e i z ht h1 h4 a n c olds (by rw [h2]; exact ho) x m ys hs2 hr (by omega) (growslice_fits hr (by rw [h3]; omega))
  refine ⟨grownCap w (n + m) c e - (n + m), w.drew.alloc (.cells ((olds ++ ys).toArray ++ Builtin.zeroCells z.cells (grownCap w (n + m) c e - (n + m))) e), ?_, ⟨rfl, rfl, rfl, rfl⟩⟩
  rw [Sem.run_bind, hrun]
  rw [show (n + m + (grownCap w (n + m) c e - (n + m))) = grownCap w (n + m) c e by omega]
  rfl
theorem firstV_row {w : World} {g n c : Nat} {C : Array Value} {T : TypeId} {fr : Nat × Nat} {xs : List Value} (hg : w.heap[g]? = some (.cells C T fr)) (hA : Av C sz n xs c) : (Builtin.firstCells sz n (.slice (some ⟨g, 0, none⟩) n c)).run P w = .ok xs.toArray w := by
  refine run_firstCells_some w sz n ⟨g, 0, none⟩ n c xs hA.len (fun j v hv => ?_)
  rw [Addr.add_lit]
  unfold World.cell?
  simp only [hg]
  rw [← hA.hd, List.getElem?_take] at hv
  split at hv
  · simpa using hv
  · exact absurd hv (by simp)
theorem inpl_head {C : Array Value} {xs ys : List Value} {o : Nat} (h : C.toList.take xs.length = xs) (ho : o = xs.length) : (inpl C o ys).toList.take (xs ++ ys).length = xs ++ ys := by
  subst ho
  unfold inpl
  rw [h]
  show (xs ++ ys ++ C.toList.drop _).take _ = _
  rw [List.take_left]
/-- append, whether there is room or not. -/
theorem appV_any {w : World} {ty tx : TypeId} (ht : P.underlying t = some (.slice e)) (hi : elike P e sz b z) {g n m c : Nat} {C : Array Value} {x : Value} {xs ys : List Value} (hA : Av C sz n xs c) (hs : Src P sz tx x m ys w) (hm : n + m ≤ 140737488351232) (hmb : (n + m) * b ≤ 140737488351232) (hg : w.heap[g]? = some (.cells C e (0, 0))) :
    ∃ r w', (do pure (Next.value (← Builtin.append_ #[t, tx] ty #[.slice (some ⟨g, 0, none⟩) n c, x])) : Sem Next).run P w = .ok (.value (.slice (some ⟨r.n.headD 0, 0, none⟩) (n + m) (r.n.tail.headD 0))) w' ∧ Av (orcC r) sz (n + m) (xs ++ ys) (r.n.tail.headD 0) ∧ Moved w w' g (r.n.headD 0) (.cells (orcC r) e (0, 0)) := by
  have hlen : (xs ++ ys).length = (n + m) * sz := by rw [List.length_append, hA.len, hs.newsLen, Nat.add_mul]
  by_cases hr : n + m ≤ c
  · obtain ⟨w', h1, h2⟩ := appV_room (w := w) (ty := ty) ht hi hA hg hs hr
    have hfit : n * sz + ys.length ≤ C.size := by rw [hs.newsLen, hA.size, ← Nat.add_mul]; exact Nat.mul_le_mul_right _ hr
    refine ⟨{ n := [g, c], o := [.cells (inpl C (n * sz) ys) 0 (0, 0)] }, w', h1, ⟨inpl_head hA.hd hA.len.symm, hlen, hr, ?_⟩, .stay rfl h2⟩
    exact (inpl_size _ _ _ hfit).trans hA.size
  · obtain ⟨k, w', h1, h2⟩ := appV_grow (w := w) (ty := ty) ht hi (a := some ⟨g, 0, none⟩) (n := n) (c := c) (olds := xs) (firstV_row (w := w.drew) (show w.drew.heap[g]? = _ from hg) hA) hs (by omega) hm hmb
    obtain ⟨i, q1, q2, q3, q4, q5⟩ := hi
    refine ⟨{ n := [w.heap.size, n + m + k], o := [.cells ((xs ++ ys).toArray ++ Builtin.zeroCells z.cells k) 0 (0, 0)] }, w', h1, ⟨?_, hlen, Nat.le_add_right _ _, ?_⟩, .grow rfl h2⟩
    · show ((xs ++ ys).toArray ++ Builtin.zeroCells z.cells k).toList.take _ = _
      rw [Array.toList_append, List.take_left]
    · show ((xs ++ ys).toArray ++ Builtin.zeroCells z.cells k).size = _
      rw [Array.size_append, zeroCells_size, List.size_toArray, hlen, q5, ← Nat.add_mul]
      rfl
/-- append to nil. -/
theorem appV_nil {w : World} {ty tx : TypeId} (ht : P.underlying t = some (.slice e)) (hi : elike P e sz b z) {m : Nat} {x : Value} {ys : List Value} (hs : Src P sz tx x m ys w) (h0 : 0 < m) (hm : m ≤ 140737488351232) (hmb : m * b ≤ 140737488351232) :
    ∃ k w', (do pure (Next.value (← Builtin.append_ #[t, tx] ty #[.slice none 0 0, x])) : Sem Next).run P w = .ok (.value (.slice (some ⟨([w.heap.size, k] : List Nat).headD 0, 0, none⟩) m (m + ([w.heap.size, k] : List Nat).tail.headD 0))) w' ∧ Grew w w' (.cells (ys.toArray ++ Builtin.zeroCells z.cells (([w.heap.size, k] : List Nat).tail.headD 0)) e (0, 0)) := by
  obtain ⟨k, w', h1, h2⟩ := appV_grow (w := w) (ty := ty) ht hi (a := none) (n := 0) (c := 0) (olds := []) (run_firstCells_none w.drew sz 0 0 0) hs (by omega) (by omega) (by rw [Nat.zero_add]; exact hmb)
  refine ⟨k, w', ?_, ?_⟩
  · simpa using h1
  · simpa using h2
theorem Av.fresh (hz : z.cells.size = sz) {ys : List Value} {m : Nat} (hl : ys.length = m * sz) (k : Nat) : Av (ys.toArray ++ Builtin.zeroCells z.cells k) sz m ys (m + k) := by
  refine ⟨?_, hl, Nat.le_add_right _ _, ?_⟩
  · rw [Array.toList_append, List.take_left]
  · rw [Array.size_append, zeroCells_size, List.size_toArray, hl, hz, ← Nat.add_mul]
end
theorem Rs.of_av {w : World} {g sz n c : Nat} {C : Array Value} {T : TypeId} {fr : Nat × Nat} {xs : List Value} (hb : w.heap[g]? = some (.cells C T fr)) (hA : Av C sz n xs c) : Rs w (some ⟨g, 0, none⟩) xs := by
  refine Or.inr ⟨_, rfl, fun i v hv => ?_⟩
  have h1 : C[i]? = some v := by
    rw [← hA.hd, List.getElem?_take] at hv
    split at hv
    · simpa using hv
    · exact absurd hv (by simp)
  rw [Addr.add_lit]
  unfold World.cell?
  simp only [hb]
  simpa using h1
theorem Is.of_av {w : World} {k : IntKind} {g c : Nat} {C : Array Value} {T : TypeId} {fr : Nat × Nat} {zs : List Int} (hb : w.heap[g]? = some (.cells C T fr)) (hA : Av C 1 zs.length (iv k zs) c) (hm : zs.length ≤ 140737488351232) : Is w k (some ⟨g, 0, none⟩) c zs :=
  ⟨hA.le, hm, Rs.of_av hb hA⟩
/-- Integers in memory that is newer than w0. -/
def Fi (w0 w : World) (k : IntKind) (a : Option Addr) (c : Nat) (zs : List Int) : Prop := Is w k a c zs ∧ ∀ p, a = some p → 0 < zs.length → w0.heap.size ≤ p.block
theorem Fi.nil {w0 w : World} {k : IntKind} {a : Option Addr} {c : Nat} : Fi w0 w k a c [] := ⟨Is.nil, fun _ _ h => absurd h (by simp)⟩
theorem Fi.of_av {w0 w : World} {k : IntKind} {g c : Nat} {C : Array Value} {T : TypeId} {fr : Nat × Nat} {zs : List Int} (hb : w0.heap.size ≤ g ∧ w.heap[g]? = some (.cells C T fr)) (hA : Av C 1 zs.length (iv k zs) c) (hm : zs.length ≤ 140737488351232) : Fi w0 w k (some ⟨g, 0, none⟩) c zs :=
  ⟨Is.of_av hb.2 hA hm, fun p hp _ => by obtain rfl : (⟨g, 0, none⟩ : Addr) = p := by simpa using hp
                                         exact hb.1⟩
theorem Fi.pers {T : Nat → Prop} {w0 w : World} {k : IntKind} {a : Option Addr} {c : Nat} {zs : List Int} (h : Fi w0 w k a c zs) (hT : ∀ b, T b → b < w0.heap.size) : Pers T (fun w => Is w k a c zs) w :=
  h.1.pers (fun p hp hn hx => absurd (h.2 p hp hn) (by have := hT _ hx; omega))
theorem St.new1 {B : Base} {w : World} {h r : List (Nat × Obj)} {F : World → Prop} (hS : St B h F w) {g0 : Nat} {o0 : Obj} (hB : B.ws = [g0]) (hh : h = (g0, o0) :: r) {x : Nat} {o : Obj} (hx : (x, o) ∈ r) : B.w.heap.size ≤ x ∧ w.heap[x]? = some o := by
  have hm : (x, o) ∈ h := by rw [hh]; exact List.mem_cons_of_mem _ hx
  refine hS.newb hm ?_
  rw [hB]
  intro h1
  obtain rfl : x = g0 := by simpa using h1
  have hn := hS.nodup
  rw [hh, List.map_cons, List.nodup_cons] at hn
  exact hn.1 (List.mem_map.2 ⟨_, hx, rfl⟩)
theorem src_blk {P : Program} {w : World} {g m c : Nat} {vs : List Value} {T tx e' : TypeId} {fr : Nat × Nat} {sz : Nat} (hk : P.underlying tx = some (.slice e')) (hb : w.heap[g]? = some (.cells vs.toArray T fr)) (hl : vs.length = m * sz) (h1 : vs.all Value.oneCell' = true) : Src P sz tx (.slice (some ⟨g, 0, none⟩) m c) m vs w := by
  refine Src.ofSlice w hk ⟨g, 0, none⟩ m c vs hl (fun j u hu => ?_) (fun u hu => List.all_eq_true.1 h1 u hu)
  rw [Addr.add_lit]
  unfold World.cell?
  simp only [hb]
  simpa using hu
section
variable {P : Program} {ops : Array Oper} {D : List Nat} {l : List (Nat × Value)} {w0 : Base} {h : List (Nat × Obj)} {F0 : World → Prop}
variable {vals : (Nat → Orc) → Nat → Value} {effs : (Nat → Orc) → Nat → Eff} {fact : (Nat → Orc) → Nat → World → Prop}
/-- A call that writes blocks that are known, and hands back new integers. -/
theorem o_callWI (i : Nat) (ns : List Nat) (f : FuncId) (args : (Nat → Orc) → Array Value) (v : (Nat → Orc) → Option Addr → Nat → Value) (ik : IntKind) (zs : (Nat → Orc) → List Int) (K K' : (Nat → Orc) → List (Nat × Obj))
    (hf : ∀ ρ T w, Given ops D w0 h F0 effs fact i ρ T w → Knows (K ρ) w → Calls P f (args ρ) w (fun e w' => ∃ a c, e = .returned (v ρ a c) ∧ Upd (fun b => b ∈ (K ρ).map (·.1)) w w' ∧ Knows (K' ρ) w' ∧ Fi w w' ik a c (zs ρ)))
    (hc : ∀ ρ z, callChkF P ops D l (vals ρ) i z = some (.enter f (args ρ), [], []) := by intros; kernel_rfl)
    (hv : ∀ ρ r, vals (upd ρ i r) i = v ρ r.a (r.n.headD 0) := by intros; kernel_rfl) (he : ∀ ρ r, effs (upd ρ i r) i = { puts := ns.zip (K' ρ) } := by intros; kernel_rfl)
    (hn : ∀ ρ, namesOk ops D h (effs ρ) i ns = true := by intros; kernel_rfl) (hk : ∀ ρ, known ops D h (effs ρ) i ns = K ρ := by intros; kernel_rfl) (hl : ∀ ρ, (K' ρ).map (·.1) = (K ρ).map (·.1) := by intros; kernel_rfl)
    (ht : ∀ ρ r, fact (upd ρ i r) i = (fun w => Is w ik r.a (r.n.headD 0) (zs ρ)) := by intros; kernel_rfl) : Obl P ops D l w0 h F0 vals effs fact i := by
  refine o_callGW i ns f args K (fun ρ _ => K' ρ) hc he hn hk (fun ρ _ => hl ρ) (fun ρ T w hG hK => (hf ρ T w hG hK).mono (fun e w' hew => ?_))
  obtain ⟨a, c, h1, h2, h3, h4⟩ := hew
  refine ⟨h2, { n := [c], a := a }, ?_, h3, ?_⟩
  · rw [hv]; exact h1
  · rw [ht]; exact h4.pers (fun b hb => hb)
end
end Go.Proofs.YtjdhjkceahaegaaDoor

/-! Trees of keys: roots, made paths, and the last equations of codes. -/
namespace Go.Proofs.YtjdhjkceahaegaaDoor
open Go

theorem len74 {B : List UInt8} (h : ((((B).length : Nat) : Int) != 74) = false) : B.length = 74 := by
  have : ((B.length : Nat) : Int) = 74 := by simpa using h
  omega
theorem len74n {B : List UInt8} (h : ((((B).length : Nat) : Int) != 74) = true) : B.length ≠ 74 := by
  intro e
  rw [e] at h
  exact absurd h (by decide)
theorem b01 {x : Nat} (h : (((x : Nat) : Int) == 0) = true) : x = 0 := by
  have : ((x : Nat) : Int) = 0 := by simpa using h
  omega
theorem b00 {x : Nat} (h : (((x : Nat) : Int) == 0) = false) : x ≠ 0 := by
  intro e; subst e; exact absurd h (by decide)
/-! ### roots -/
def msX (S : List UInt8) : Nat := addmN (tagN tgM S) 0 qP
def msE (S : List UInt8) : Int := if S.length < 16 ∨ 64 < S.length then 5 else pubE (msX S)
def msK (S : List UInt8) : Ky := if msE S = 0 then ⟨msX S, pubV (msX S), tagN tgI S, 0, 0, 0⟩ else Ky.z
theorem msK_ok (S : List UInt8) : (msK S).Ok := by
  unfold msK
  split
  · exact ⟨addmN_lt _ _ qP_lt, pubV_lt _, tagN_lt _ _, by show (0 : Nat) < 4294967296; decide, by show (0 : Nat) < 4294967296; decide⟩
  · exact Ky.z_ok
theorem ms_5 {S : List UInt8} (h : S.length < 16 ∨ 64 < S.length) : msE S = 5 ∧ msK S = Ky.z := by
  have e : msE S = 5 := if_pos h
  exact ⟨e, by unfold msK; rw [e]; rfl⟩
theorem ms_E {S : List UInt8} (h : ¬ (S.length < 16 ∨ 64 < S.length)) : msE S = pubE (msX S) := if_neg h
theorem ms_0 {S : List UInt8} (h : ¬ (S.length < 16 ∨ 64 < S.length)) (hx : addmN (tagN tgM S) 0 qP = 0) : msE S = 60 ∧ msK S = Ky.z := by
  have hs : secB (msX S) = false := by
    unfold secB
    rw [decide_eq_false (fun q => q.1 hx)]
  have e : msE S = 60 := (ms_E h).trans (pub_no hs).2
  exact ⟨e, by unfold msK; rw [e]; rfl⟩
theorem ms_e {S : List UInt8} (h : ¬ (S.length < 16 ∨ 64 < S.length)) (hx : pubE (addmN (tagN tgM S) 0 qP) ≠ 0) : msE S = pubE (addmN (tagN tgM S) 0 qP) ∧ msK S = Ky.z := by
  have e : msE S = pubE (msX S) := ms_E h
  exact ⟨e, by unfold msK; rw [if_neg (by rw [e]; exact hx)]⟩
theorem ms_k {S : List UInt8} (h : ¬ (S.length < 16 ∨ 64 < S.length)) (hx : pubE (addmN (tagN tgM S) 0 qP) = 0) : msE S = 0 ∧ msK S = ⟨addmN (tagN tgM S) 0 qP, pubV (addmN (tagN tgM S) 0 qP), tagN tgI S, 0, 0, 0⟩ := by
  have e : msE S = 0 := (ms_E h).trans hx
  exact ⟨e, by unfold msK; rw [if_pos e]; rfl⟩
section
variable {S : List UInt8} {t y x : Nat} (et : tagN tgM S = t) (ey : tagN tgI S = y) (ex : addmN t 0 qP = x) (h : ¬ (S.length < 16 ∨ 64 < S.length))
include et ex h
theorem msn_0 (hx : x = 0) : msE S = 60 ∧ msK S = Ky.z := by subst et ex; exact ms_0 h hx
theorem msn_e (hx : pubE x ≠ 0) : msE S = pubE x ∧ msK S = Ky.z := by subst et ex; exact ms_e h hx
include ey
theorem msn_k (hx : pubE x = 0) : msE S = 0 ∧ msK S = ⟨x, pubV x, y, 0, 0, 0⟩ := by subst et ey ex; exact ms_k h hx
end
/-! ### a path that is made -/
def dvn (zs : List Int) (j : Nat) : Nat := dN zs (j + 6) 3
def dvP (zs : List Int) (j : Nat) : List Nat := (List.range (dvn zs j)).map fun m => dN zs (j + 7 + m) 5
theorem dvP_soft (zs : List Int) (j : Nat) : ∀ i ∈ dvP zs j, i < 5 := by
  intro i hi
  obtain ⟨m, _, rfl⟩ := List.mem_map.1 hi
  exact dN_lt _ _ (by decide)
theorem dvP_hd (zs : List Int) (j : Nat) : ∀ i ∈ dvP zs j, hdB i = false := fun i hi => decide_eq_false (by have := dvP_soft zs j i hi; omega)
theorem dvP_32 (zs : List Int) (j : Nat) : ∀ i ∈ dvP zs j, i < 4294967296 := fun i hi => by have := dvP_soft zs j i hi; omega
theorem dvP_len (zs : List Int) (j : Nat) : (dvP zs j).length < 3 := by
  unfold dvP
  rw [List.length_map, List.length_range]
  exact dN_lt _ _ (by decide)
theorem dvn_0 {zs : List Int} {j : Nat} (h : decide (0 < ((dN zs (j + 6) 3 : Nat) : Int)) = false) : dvn zs j = 0 := by have := of_decide_eq_false h; unfold dvn; omega
theorem dvn_1 {zs : List Int} {j : Nat} (h : decide (0 < ((dN zs (j + 6) 3 : Nat) : Int)) = true) (h2 : decide (0 < ((dN zs (j + 6) 3 - 1 : Nat) : Int)) = false) : dvn zs j = 1 := by
  have := of_decide_eq_true h; have := of_decide_eq_false h2; unfold dvn; omega
theorem dvn_2 {zs : List Int} {j : Nat} (h2 : decide (0 < ((dN zs (j + 6) 3 - 1 : Nat) : Int)) = true) : dvn zs j = 2 := by
  have := of_decide_eq_true h2; have := dN_lt zs (j + 6) (n := 3) (by decide); unfold dvn; omega
theorem dvP_0 {zs : List Int} {j : Nat} (h : dvn zs j = 0) : nI (dvP zs j) = [] := by unfold dvP; rw [h]; rfl
theorem dvP_1 {zs : List Int} {j : Nat} (h : dvn zs j = 1) : nI (dvP zs j) = [((dN zs (j + 7) 5 : Nat) : Int)] := by unfold dvP; rw [h]; rfl
theorem dvP_2 {zs : List Int} {j : Nat} (h : dvn zs j = 2) : nI (dvP zs j) = [((dN zs (j + 7) 5 : Nat) : Int), ((dN zs (j + 8) 5 : Nat) : Int)] := by unfold dvP; rw [h]; rfl
end Go.Proofs.YtjdhjkceahaegaaDoor

/-! A key and a path that are made: the walk. -/
namespace Go.Proofs.YtjdhjkceahaegaaDoor
open Go Go.RowKit

theorem derived_any (g : Nat) (a : Option Addr) (c : Nat) (zs : List Int) (j : Nat) (hz : Z64 zs) (w0 : World) (hK : Knows [(g, (.cells #[(.slice a (zs).length c), (.int .i64 ((pN zs j : Nat) : Int))] 58 (0, 0)))] w0) (hP : Pers (fun b => b ∈ ([(g, (.cells #[(.slice a (zs).length c), (.int .i64 ((pN zs j : Nat) : Int))] 58 (0, 0)))] : List (Nat × Obj)).map (·.1)) (fun w => Is w .i64 a c zs ∧ True) w0) : Calls Tryd.prog 19 #[(pt g)] w0 (fun ε w' => ∃ α κ, ε = .returned (.tuple #[(.agg (kC ((mkK zs j true).s) ((mkK zs j true).p) ((mkK zs j true).c) ((mkK zs j true).d) (((mkK zs j true).i : Nat) : Int) (((mkK zs j true).n : Nat) : Int))), .slice α (nI (dvP zs j)).length κ]) ∧ Upd (fun b => b ∈ ([(g, (.cells #[(.slice a (zs).length c), (.int .i64 ((pN zs j : Nat) : Int))] 58 (0, 0)))] : List (Nat × Obj)).map (·.1)) w0 w' ∧ Knows [(g, (.cells #[(.slice a (zs).length c), (.int .i64 ((pN zs (j + (7 + dvn zs j)) : Nat) : Int))] 58 (0, 0)))] w' ∧ Fi w0 w' .u32 α κ (nI (dvP zs j))) := by
  refine Calls.of_okW (n := 23) (F := (fun w => Is w .i64 a c zs ∧ True)) [(g, (.cells #[(.slice a (zs).length c), (.int .i64 ((pN zs j : Nat) : Int))] 58 (0, 0)))] Tryd.func19 rfl rfl rfl (by simp) hK (by simp) hP ?_
  refine sS Tryd.f19 2 [0, 2, 3] [] (fun ρ => [(pt (nb ρ 0)), (.slice none 0 0)]) (fun ρ => [(0, { news := [(nb ρ 0, (.cells (kC 0 0 0 0 0 0) 30 (0, 0)))] })]) (cR [[], []] <| cN) (fun ρ1 => ?_)
  refine sS Tryd.f19 4 [0, 2, 3, 4] [] (fun ρ => [(pt g), (.agg (kC ((mkK zs j true).s) ((mkK zs j true).p) ((mkK zs j true).c) ((mkK zs j true).d) (((mkK zs j true).i : Nat) : Int) (((mkK zs j true).n : Nat) : Int))), (pt (nb ρ 2)), undef]) (fun ρ => [(1, { puts := [(0, g, (.cells #[(.slice a (zs).length c), (.int .i64 ((pN zs (j + 6) : Nat) : Int))] 58 (0, 0)))] }), (2, { news := [(nb ρ 2, (.cells (kC 0 0 0 0 0 0) 30 (0, 0)))] }), (3, { puts := [(18, nb ρ 2, (.cells (kC ((mkK zs j true).s) ((mkK zs j true).p) ((mkK zs j true).c) ((mkK zs j true).d) (((mkK zs j true).i : Nat) : Int) (((mkK zs j true).n : Nat) : Int)) 30 (0, 0)))] })]) (cR [[]] <| cX (o_callW _ [0] 9 (fun _ => #[(pt g), (.bool true)]) (fun _ => (.agg (kC ((mkK zs j true).s) ((mkK zs j true).p) ((mkK zs j true).c) ((mkK zs j true).d) (((mkK zs j true).i : Nat) : Int) (((mkK zs j true).n : Nat) : Int)))) (fun _ => [(g, (.cells #[(.slice a (zs).length c), (.int .i64 ((pN zs j : Nat) : Int))] 58 (0, 0)))]) (fun _ => [(g, (.cells #[(.slice a (zs).length c), (.int .i64 ((pN zs (j + 6) : Nat) : Int))] 58 (0, 0)))]) (fun _ _ w hG hK => mkey_any g a c zs j true hz w hK (hG.persK [0] (by kernel_rfl) (by kernel_rfl) (fun _ hF => ⟨hF.1, trivial⟩)) )) <| cR [[], [18]] <| cN) (fun ρ2 => ?_)
  refine sS Tryd.f19 1 [0, 2, 3, 4, 5] [] (fun _ => [(.slice none 0 0)]) (fun _ => []) (cR [[]] <| cN) (fun _ => ?_)
  refine ok_seq ?_
  refine sS Tryd.f19 3 [0, 2, 3, 4, 5, 6] [] (fun _ => [(pt g), (.int .i64 ((dN zs (j + 6) 3 : Nat) : Int)), (.int .i64 ((dN zs (j + 6) 3 : Nat) : Int))]) (fun _ => [(1, { puts := [(0, g, (.cells #[(.slice a (zs).length c), (.int .i64 ((pN zs (j + 7) : Nat) : Int))] 58 (0, 0)))] })]) (cR [[]] <| cX (o_callW _ [0] 10 (fun _ => #[(pt g), (.int .i64 3)]) (fun _ => (.int .i64 ((dN zs (j + 6) 3 : Nat) : Int))) (fun _ => [(g, (.cells #[(.slice a (zs).length c), (.int .i64 ((pN zs (j + 6) : Nat) : Int))] 58 (0, 0)))]) (fun _ => [(g, (.cells #[(.slice a (zs).length c), (.int .i64 ((pN zs (j + 7) : Nat) : Int))] 58 (0, 0)))]) (fun _ _ w hG hK => next_any g a c zs (j + 6) 3 (by decide) hz w hK (hG.persK [0] (by kernel_rfl) (by kernel_rfl) (fun _ hF => ⟨hF.1, trivial⟩)) )) <| cR [[]] <| cN) (fun _ => ?_)
  refine ok_block ?_
  refine ok_rounds 3 ?_
  refine okr_succ ?_
  refine ok_seq ?_
  refine sS Tryd.f19 2 [0, 2, 3, 4, 5, 6, 11, 12] [] (fun _ => [(.int .i64 ((dN zs (j + 6) 3 : Nat) : Int)), (.bool (decide (0 < ((dN zs (j + 6) 3 : Nat) : Int))))]) (fun _ => []) (cR [[], []] <| cN) (fun _ => ?_)
  refine dRs [(0, (pt g)), (2, (pt (nb ρ1 0))), (3, (.slice none 0 0)), (4, (pt (nb ρ2 2))), (5, (.slice none 0 0)), (6, (.int .i64 ((dN zs (j + 6) 3 : Nat) : Int))), (11, (.int .i64 ((dN zs (j + 6) 3 : Nat) : Int))), (12, (.bool (decide (0 < ((dN zs (j + 6) 3 : Nat) : Int)))))] [(g, (.cells #[(.slice a (zs).length c), (.int .i64 ((pN zs (j + 7) : Nat) : Int))] 58 (0, 0))), (nb ρ1 0, (.cells (kC 0 0 0 0 0 0) 30 (0, 0))), (nb ρ2 2, (.cells (kC ((mkK zs j true).s) ((mkK zs j true).p) ((mkK zs j true).c) ((mkK zs j true).d) (((mkK zs j true).i : Nat) : Int) (((mkK zs j true).n : Nat) : Int)) 30 (0, 0)))] ?_
  refine oC (decide (0 < ((dN zs (j + 6) 3 : Nat) : Int))) (fun hb1 => ?_) (fun hb1 => ?_)
  ·
    rw [hb1]
    refine ok_skip ?_
    refine mt_then ?_
    refine ok_seq ?_
    refine ok_block ?_
    refine rS Tryd.f19 7 [0, 2, 3, 4, 5, 6, 11, 12, 15, 16, 17, 18, 19, 20] [] (fun ρ => [(.slice none 0 0), (pt g), (.int .i64 ((dN zs (j + 7) 5 : Nat) : Int)), (.int .u32 ((dN zs (j + 7) 5 : Nat) : Int)), (.slice (some ⟨nb ρ 4, 0, none⟩) 1 1), (.slice (some ⟨nb ρ 5, 0, none⟩) 1 (1 + nb2 ρ 5)), (.slice (some ⟨nb ρ 5, 0, none⟩) 1 (1 + nb2 ρ 5))]) (fun ρ => [(2, { puts := [(0, g, (.cells #[(.slice a (zs).length c), (.int .i64 ((pN zs (j + 8) : Nat) : Int))] 58 (0, 0)))] }), (4, { news := [(nb ρ 4, (.cells #[(.int .u32 ((dN zs (j + 7) 5 : Nat) : Int))] 28 (0, 0)))] }), (5, { news := [(nb ρ 5, (.cells ([(.int .u32 ((dN zs (j + 7) 5 : Nat) : Int))].toArray ++ Builtin.zeroCells (Value.cells (.int .u32 0)) (nb2 ρ 5)) 28 (0, 0)))] })]) (cR [[], []] <| cX (o_callW _ [0] 10 (fun _ => #[(pt g), (.int .i64 5)]) (fun _ => (.int .i64 ((dN zs (j + 7) 5 : Nat) : Int))) (fun _ => [(g, (.cells #[(.slice a (zs).length c), (.int .i64 ((pN zs (j + 7) : Nat) : Int))] 58 (0, 0)))]) (fun _ => [(g, (.cells #[(.slice a (zs).length c), (.int .i64 ((pN zs (j + 8) : Nat) : Int))] 58 (0, 0)))]) (fun _ _ w hG hK => next_any g a c zs (j + 7) 5 (by decide) hz w hK (hG.persK [0] (by kernel_rfl) (by kernel_rfl) (fun _ hF => ⟨hF.1, trivial⟩)) )) <| cA (v := fun ρ => (.int .u32 (IntKind.u32.wrap (((dN zs (j + 7) 5 : Nat) : Int))))) (fun _ => (.int .u32 ((dN zs (j + 7) 5 : Nat) : Int))) (fun _ => congrArg (Value.int .u32) (u32N (Nat.lt_of_lt_of_le (dN_lt zs (j + 7) (by decide)) (by decide)))) <| cR [[]] <| cX (o_new1 _ (fun ρ => do pure (Next.value (← Builtin.append_ #[42, 42] 42 #[(.slice none 0 0), (.slice (some ⟨nb ρ 4, 0, none⟩) 1 1)]))) (fun _ z => (.slice (some ⟨z.headD 0, 0, none⟩) 1 (1 + z.tail.headD 0))) (fun _ z => (.cells ([(.int .u32 ((dN zs (j + 7) 5 : Nat) : Int))].toArray ++ Builtin.zeroCells (Value.cells (.int .u32 0)) (z.tail.headD 0)) 28 (0, 0))) (fun _ _ => (by kernel_rfl)) (fun _ => (by kernel_rfl)) (fun _ _ => trivial) (fun ρ _ _ hG => appV_nil Tryd.underlying42 (elike_of (sz := 1) (b := 4) (z := (.int .u32 0)) (by kernel_rfl) rfl) (src_blk (vs := [(.int .u32 ((dN zs (j + 7) 5 : Nat) : Int))]) Tryd.underlying42 (hG.known (g := nb ρ 4) (o := (.cells #[(.int .u32 ((dN zs (j + 7) 5 : Nat) : Int))] 28 (0, 0))) 35 (by kernel_rfl) (by kernel_rfl)) rfl rfl) (by decide) (by decide) (by decide))) <| cR [[]] <| cN) (fun ρ6 => ?_)
    refine mt_block_n ?_
    refine mt_then ?_
    refine rS Tryd.f19 3 [0, 2, 3, 4, 5, 6, 11, 12, 13, 14, 15, 16, 17, 18, 19, 20] [] (fun _ => [(.int .i64 ((dN zs (j + 6) 3 : Nat) : Int)), (.int .i64 ((dN zs (j + 6) 3 - 1 : Nat) : Int)), (.int .i64 ((dN zs (j + 6) 3 - 1 : Nat) : Int))]) (fun _ => []) (cR [[]] <| cA (v := fun ρ => (.int .i64 (IntKind.i64.wrap (((dN zs (j + 6) 3 : Nat) : Int) - 1)))) (fun _ => (.int .i64 ((dN zs (j + 6) 3 - 1 : Nat) : Int))) (fun _ => congrArg (Value.int .i64) ((i64N (by have := of_decide_eq_true hb1; have := dN_lt zs (j + 6) (n := 3) (by decide); omega)).trans (by have := of_decide_eq_true hb1; omega))) <| cR [[]] <| cN) (fun _ => ?_)
    refine mt_rounds ?_
    refine okr_succ ?_
    refine ok_seq ?_
    refine sS Tryd.f19 2 [0, 2, 3, 4, 5, 6, 11, 12, 13, 14, 15, 16, 17, 18, 19, 20] [] (fun _ => [(.int .i64 ((dN zs (j + 6) 3 - 1 : Nat) : Int)), (.bool (decide (0 < ((dN zs (j + 6) 3 - 1 : Nat) : Int))))]) (fun _ => []) (cR [[], []] <| cN) (fun _ => ?_)
    refine oC (decide (0 < ((dN zs (j + 6) 3 - 1 : Nat) : Int))) (fun hb2 => ?_) (fun hb2 => ?_)
    ·
      rw [hb2]
      refine ok_skip ?_
      refine mt_then ?_
      refine ok_seq ?_
      refine ok_block ?_
      refine rSf Tryd.f19 7 [0, 2, 3, 4, 5, 6, 11, 12, 13, 14, 15, 16, 17, 18, 19, 20] [1, 1, 1, 0, 1, 1] (fun ρ => [(.slice (some ⟨nb ρ6 5, 0, none⟩) 1 (1 + nb2 ρ6 5)), (pt g), (.int .i64 ((dN zs (j + 8) 5 : Nat) : Int)), (.int .u32 ((dN zs (j + 8) 5 : Nat) : Int)), (.slice (some ⟨nb ρ 4, 0, none⟩) 1 1), (.slice (some ⟨nb ρ 5, 0, none⟩) 2 (nb2 ρ 5)), (.slice (some ⟨nb ρ 5, 0, none⟩) 2 (nb2 ρ 5))]) (fun ρ => [(2, { puts := [(0, g, (.cells #[(.slice a (zs).length c), (.int .i64 ((pN zs (j + 9) : Nat) : Int))] 58 (0, 0)))] }), (4, { news := [(nb ρ 4, (.cells #[(.int .u32 ((dN zs (j + 8) 5 : Nat) : Int))] 28 (0, 0)))] }), (5, { puts := [(4, nb ρ 5, (.cells (oc ρ 5) 28 (0, 0)))] })]) (fun ρ => [(5, fun w => Av (oc ρ 5) 1 2 [(.int .u32 ((dN zs (j + 7) 5 : Nat) : Int)), (.int .u32 ((dN zs (j + 8) 5 : Nat) : Int))] (nb2 ρ 5))]) (fun _ => (fun w => Is w .i64 a c zs ∧ True)) (fun ρ => Av (oc ρ 5) 1 2 [(.int .u32 ((dN zs (j + 7) 5 : Nat) : Int)), (.int .u32 ((dN zs (j + 8) 5 : Nat) : Int))] (nb2 ρ 5)) (fun _ _ hF hf => ⟨hF, hf 5⟩) (cR [[], []] <| cX (o_callW _ [0] 10 (fun _ => #[(pt g), (.int .i64 5)]) (fun _ => (.int .i64 ((dN zs (j + 8) 5 : Nat) : Int))) (fun _ => [(g, (.cells #[(.slice a (zs).length c), (.int .i64 ((pN zs (j + 8) : Nat) : Int))] 58 (0, 0)))]) (fun _ => [(g, (.cells #[(.slice a (zs).length c), (.int .i64 ((pN zs (j + 9) : Nat) : Int))] 58 (0, 0)))]) (fun _ _ w hG hK => next_any g a c zs (j + 8) 5 (by decide) hz w hK (hG.persK [0] (by kernel_rfl) (by kernel_rfl) (fun _ hF => ⟨hF.1, trivial⟩)) )) <| cA (v := fun ρ => (.int .u32 (IntKind.u32.wrap (((dN zs (j + 8) 5 : Nat) : Int))))) (fun _ => (.int .u32 ((dN zs (j + 8) 5 : Nat) : Int))) (fun _ => congrArg (Value.int .u32) (u32N (Nat.lt_of_lt_of_le (dN_lt zs (j + 8) (by decide)) (by decide)))) <| cR [[]] <| cX (o_move1 _ 4 (fun ρ => do pure (Next.value (← Builtin.append_ #[42, 42] 42 #[(.slice (some ⟨nb ρ6 5, 0, none⟩) 1 (1 + nb2 ρ6 5)), (.slice (some ⟨nb ρ 4, 0, none⟩) 1 1)]))) (fun _ => nb ρ6 5) (fun _ => (.cells ([(.int .u32 ((dN zs (j + 7) 5 : Nat) : Int))].toArray ++ Builtin.zeroCells (Value.cells (.int .u32 0)) (nb2 ρ6 5)) 28 (0, 0))) (fun _ r => (.cells (orcC r) 28 (0, 0))) (fun _ r => (.slice (some ⟨r.n.headD 0, 0, none⟩) 2 (r.n.tail.headD 0))) (fun _ r => Av (orcC r) 1 2 [(.int .u32 ((dN zs (j + 7) 5 : Nat) : Int)), (.int .u32 ((dN zs (j + 8) 5 : Nat) : Int))] (r.n.tail.headD 0)) (fun _ _ => (by kernel_rfl)) (fun _ => (by kernel_rfl)) (fun _ => (by kernel_rfl)) (fun _ => (by kernel_rfl)) (fun _ _ => (by kernel_rfl)) (fun ρ _ _ hG hg => appV_any Tryd.underlying42 (elike_of (sz := 1) (b := 4) (z := (.int .u32 0)) (by kernel_rfl) rfl) (Av.fresh (z := (.int .u32 0)) (m := 1) rfl (ys := [(.int .u32 ((dN zs (j + 7) 5 : Nat) : Int))]) rfl (nb2 ρ6 5)) (src_blk (vs := [(.int .u32 ((dN zs (j + 8) 5 : Nat) : Int))]) Tryd.underlying42 (hG.known (g := nb ρ 4) (o := (.cells #[(.int .u32 ((dN zs (j + 8) 5 : Nat) : Int))] 28 (0, 0))) 37 (by kernel_rfl) (by kernel_rfl)) rfl rfl) (by decide) (by decide) hg)) <| cR [[]] <| cN) (fun ρ9 ap9_5 => ?_)
      refine mt_block_n ?_
      refine mt_then ?_
      refine rS Tryd.f19 3 [0, 2, 3, 4, 5, 6, 11, 12, 13, 14, 15, 16, 17, 18, 19, 20] [] (fun _ => [(.int .i64 ((dN zs (j + 6) 3 - 1 : Nat) : Int)), (.int .i64 ((dN zs (j + 6) 3 - 1 - 1 : Nat) : Int)), (.int .i64 ((dN zs (j + 6) 3 - 1 - 1 : Nat) : Int))]) (fun _ => []) (cR [[]] <| cA (v := fun ρ => (.int .i64 (IntKind.i64.wrap (((dN zs (j + 6) 3 - 1 : Nat) : Int) - 1)))) (fun _ => (.int .i64 ((dN zs (j + 6) 3 - 1 - 1 : Nat) : Int))) (fun _ => congrArg (Value.int .i64) ((i64N (by have := of_decide_eq_true hb2; have := dN_lt zs (j + 6) (n := 3) (by decide); omega)).trans (by have := of_decide_eq_true hb2; omega))) <| cR [[]] <| cN) (fun _ => ?_)
      refine mt_rounds ?_
      refine okr_succ ?_
      refine ok_seq ?_
      refine sS Tryd.f19 2 [0, 2, 3, 4, 5, 6, 11, 12, 13, 14, 15, 16, 17, 18, 19, 20] [] (fun _ => [(.int .i64 ((dN zs (j + 6) 3 - 1 - 1 : Nat) : Int)), (.bool false)]) (fun _ => []) (cR [[]] <| cA (v := fun ρ => (.bool (decide (0 < ((dN zs (j + 6) 3 - 1 - 1 : Nat) : Int))))) (fun _ => (.bool false)) (fun _ => congrArg Value.bool (decide_eq_false (by have := dN_lt zs (j + 6) (n := 3) (by decide); omega))) <| cN) (fun _ => ?_)
      refine dRs [(0, (pt g)), (2, (pt (nb ρ1 0))), (3, (.slice none 0 0)), (4, (pt (nb ρ2 2))), (5, (.slice (some ⟨nb ρ9 5, 0, none⟩) 2 (nb2 ρ9 5))), (6, (.int .i64 ((dN zs (j + 6) 3 - 1 - 1 : Nat) : Int))), (11, (.int .i64 ((dN zs (j + 6) 3 - 1 - 1 : Nat) : Int))), (12, (.bool false)), (13, (.int .i64 ((dN zs (j + 6) 3 - 1 : Nat) : Int))), (14, (.int .i64 ((dN zs (j + 6) 3 - 1 - 1 : Nat) : Int))), (15, (.slice (some ⟨nb ρ6 5, 0, none⟩) 1 (1 + nb2 ρ6 5))), (16, (pt g)), (17, (.int .i64 ((dN zs (j + 8) 5 : Nat) : Int))), (18, (.int .u32 ((dN zs (j + 8) 5 : Nat) : Int))), (19, (.slice (some ⟨nb ρ9 4, 0, none⟩) 1 1)), (20, (.slice (some ⟨nb ρ9 5, 0, none⟩) 2 (nb2 ρ9 5)))] [(g, (.cells #[(.slice a (zs).length c), (.int .i64 ((pN zs (j + 9) : Nat) : Int))] 58 (0, 0))), (nb ρ1 0, (.cells (kC 0 0 0 0 0 0) 30 (0, 0))), (nb ρ2 2, (.cells (kC ((mkK zs j true).s) ((mkK zs j true).p) ((mkK zs j true).c) ((mkK zs j true).d) (((mkK zs j true).i : Nat) : Int) (((mkK zs j true).n : Nat) : Int)) 30 (0, 0))), (nb ρ9 5, (.cells (oc ρ9 5) 28 (0, 0))), (nb ρ9 4, (.cells #[(.int .u32 ((dN zs (j + 8) 5 : Nat) : Int))] 28 (0, 0)))] ?_
      refine oN ?_
      refine ok_exit ?_
      refine mt_then_e ?_
      refine mt_then_e ?_
      refine mt_block_h ?_
      refine mt_then ?_
      refine sS Tryd.f19 4 [2, 3] [1, 1, 0, 1, 0] (fun _ => [(.agg (kC ((mkK zs j true).s) ((mkK zs j true).p) ((mkK zs j true).c) ((mkK zs j true).d) (((mkK zs j true).i : Nat) : Int) (((mkK zs j true).n : Nat) : Int))), (.slice (some ⟨nb ρ9 5, 0, none⟩) 2 (nb2 ρ9 5)), undef, (.slice (some ⟨nb ρ9 5, 0, none⟩) 2 (nb2 ρ9 5))]) (fun _ => [(2, { puts := [(1, nb ρ1 0, (.cells (kC ((mkK zs j true).s) ((mkK zs j true).p) ((mkK zs j true).c) ((mkK zs j true).d) (((mkK zs j true).i : Nat) : Int) (((mkK zs j true).n : Nat) : Int)) 30 (0, 0)))] })]) (cR [[2], [], [1], []] <| cN) (fun _ => ?_)
      refine ok_ret ?_
      refine mD [(2, (pt (nb ρ1 0))), (3, (.slice (some ⟨nb ρ9 5, 0, none⟩) 2 (nb2 ρ9 5)))] [(g, (.cells #[(.slice a (zs).length c), (.int .i64 ((pN zs (j + 9) : Nat) : Int))] 58 (0, 0))), (nb ρ1 0, (.cells (kC ((mkK zs j true).s) ((mkK zs j true).p) ((mkK zs j true).c) ((mkK zs j true).d) (((mkK zs j true).i : Nat) : Int) (((mkK zs j true).n : Nat) : Int)) 30 (0, 0))), (nb ρ9 5, (.cells (oc ρ9 5) 28 (0, 0)))] ?_
      exact mR (v := (.tuple #[(.agg (kC ((mkK zs j true).s) ((mkK zs j true).p) ((mkK zs j true).c) ((mkK zs j true).d) (((mkK zs j true).i : Nat) : Int) (((mkK zs j true).n : Nat) : Int))), (.slice (some ⟨nb ρ9 5, 0, none⟩) 2 (nb2 ρ9 5))])) (ps := [1,1,1,1,1,1,1,1,1,1,1,1,1,1,1,1,1,1,1,1,1,1,1,1,1,1,1,1,1,1,1,1,1,1,1,1,1,1,1,1,1,1,1]) (fun _ hS => ⟨(some ⟨nb ρ9 5, 0, none⟩), nb2 ρ9 5, by rw [dvP_2 (dvn_2 hb2)]; rfl, hS.below, by rw [(dvn_2 hb2)]; exact hS.knows [1, 0, 0], by rw [dvP_2 (dvn_2 hb2)]; exact Fi.of_av (zs := [((dN zs (j + 7) 5 : Nat) : Int), ((dN zs (j + 8) 5 : Nat) : Int)]) (hS.new1 rfl rfl (.tail _ (.head _))) ap9_5 (Nat.le_of_ble_eq_true rfl)⟩)
    ·
      rw [hb2]
      refine ok_exit ?_
      refine mt_then_e ?_
      refine mt_then_e ?_
      refine mt_block_h ?_
      refine mt_then ?_
      refine sS Tryd.f19 4 [2, 3] [1, 1, 0, 0, 1] (fun _ => [(.agg (kC ((mkK zs j true).s) ((mkK zs j true).p) ((mkK zs j true).c) ((mkK zs j true).d) (((mkK zs j true).i : Nat) : Int) (((mkK zs j true).n : Nat) : Int))), (.slice (some ⟨nb ρ6 5, 0, none⟩) 1 (1 + nb2 ρ6 5)), undef, (.slice (some ⟨nb ρ6 5, 0, none⟩) 1 (1 + nb2 ρ6 5))]) (fun _ => [(2, { puts := [(1, nb ρ1 0, (.cells (kC ((mkK zs j true).s) ((mkK zs j true).p) ((mkK zs j true).c) ((mkK zs j true).d) (((mkK zs j true).i : Nat) : Int) (((mkK zs j true).n : Nat) : Int)) 30 (0, 0)))] })]) (cR [[2], [], [1], []] <| cN) (fun _ => ?_)
      refine ok_ret ?_
      refine mD [(2, (pt (nb ρ1 0))), (3, (.slice (some ⟨nb ρ6 5, 0, none⟩) 1 (1 + nb2 ρ6 5)))] [(g, (.cells #[(.slice a (zs).length c), (.int .i64 ((pN zs (j + 8) : Nat) : Int))] 58 (0, 0))), (nb ρ1 0, (.cells (kC ((mkK zs j true).s) ((mkK zs j true).p) ((mkK zs j true).c) ((mkK zs j true).d) (((mkK zs j true).i : Nat) : Int) (((mkK zs j true).n : Nat) : Int)) 30 (0, 0))), (nb ρ6 5, (.cells ([(.int .u32 ((dN zs (j + 7) 5 : Nat) : Int))].toArray ++ Builtin.zeroCells (Value.cells (.int .u32 0)) (nb2 ρ6 5)) 28 (0, 0)))] ?_
      exact mR (v := (.tuple #[(.agg (kC ((mkK zs j true).s) ((mkK zs j true).p) ((mkK zs j true).c) ((mkK zs j true).d) (((mkK zs j true).i : Nat) : Int) (((mkK zs j true).n : Nat) : Int))), (.slice (some ⟨nb ρ6 5, 0, none⟩) 1 (1 + nb2 ρ6 5))])) (ps := [1,1,1,1,1,1,1,1,1,1,1,1,1,1,1,1,1,1,1,1,1,1,1,1,1,1,1,1,1,1,1,1,1,1,1,1,1,1,1,1,1,1,1]) (fun _ hS => ⟨(some ⟨nb ρ6 5, 0, none⟩), 1 + nb2 ρ6 5, by rw [dvP_1 (dvn_1 hb1 hb2)]; rfl, hS.below, by rw [(dvn_1 hb1 hb2)]; exact hS.knows [1, 0, 0], by rw [dvP_1 (dvn_1 hb1 hb2)]; exact Fi.of_av (zs := [((dN zs (j + 7) 5 : Nat) : Int)]) (hS.new1 rfl rfl (.tail _ (.head _))) (Av.fresh (z := (.int .u32 0)) (m := 1) rfl (ys := [(.int .u32 ((dN zs (j + 7) 5 : Nat) : Int))]) rfl (nb2 ρ6 5)) (Nat.le_of_ble_eq_true rfl)⟩)
  ·
    rw [hb1]
    refine ok_exit ?_
    refine mt_then_e ?_
    refine mt_then_e ?_
    refine mt_block_h ?_
    refine mt_then ?_
    refine sS Tryd.f19 4 [2, 3] [1, 1, 0] (fun _ => [(.agg (kC ((mkK zs j true).s) ((mkK zs j true).p) ((mkK zs j true).c) ((mkK zs j true).d) (((mkK zs j true).i : Nat) : Int) (((mkK zs j true).n : Nat) : Int))), (.slice none 0 0), undef, (.slice none 0 0)]) (fun _ => [(2, { puts := [(1, nb ρ1 0, (.cells (kC ((mkK zs j true).s) ((mkK zs j true).p) ((mkK zs j true).c) ((mkK zs j true).d) (((mkK zs j true).i : Nat) : Int) (((mkK zs j true).n : Nat) : Int)) 30 (0, 0)))] })]) (cR [[2], [], [1], []] <| cN) (fun _ => ?_)
    refine ok_ret ?_
    refine mD [(2, (pt (nb ρ1 0))), (3, (.slice none 0 0))] [(g, (.cells #[(.slice a (zs).length c), (.int .i64 ((pN zs (j + 7) : Nat) : Int))] 58 (0, 0))), (nb ρ1 0, (.cells (kC ((mkK zs j true).s) ((mkK zs j true).p) ((mkK zs j true).c) ((mkK zs j true).d) (((mkK zs j true).i : Nat) : Int) (((mkK zs j true).n : Nat) : Int)) 30 (0, 0)))] ?_
    exact mR (v := (.tuple #[(.agg (kC ((mkK zs j true).s) ((mkK zs j true).p) ((mkK zs j true).c) ((mkK zs j true).d) (((mkK zs j true).i : Nat) : Int) (((mkK zs j true).n : Nat) : Int))), (.slice none 0 0)])) (ps := [1,1,1,1,1,1,1,1,1,1,1,1,1,1,1,1,1,1,1,1,1,1,1,1,1,1,1,1,1,1,1,1,1,1,1,1,1,1,1,1,1,1,1]) (fun _ hS => ⟨none, 0, by rw [dvP_0 (dvn_0 hb1)]; rfl, hS.below, by rw [(dvn_0 hb1)]; exact hS.knows [1, 0], by rw [dvP_0 (dvn_0 hb1)]; exact Fi.nil⟩)
end Go.Proofs.YtjdhjkceahaegaaDoor

/-! Trees of keys: what the laws ask. -/
namespace Go.Proofs.YtjdhjkceahaegaaDoor
open Go

theorem dr_is {k : Ky} {p : List Nat} (h : sndB k = true) : drE k p = dvE k p ∧ drK k p = dvK k p := by unfold drE drK; rw [if_pos h, if_pos h]; exact ⟨rfl, rfl⟩
theorem neu_E {k : Ky} {p : List Nat} (h : sndB k = true) (hs : k.s ≠ 0) (hp : ∀ i ∈ p, hdB i = false) : (drE k p == drE k.neu p) = true := by
  rw [(dr_is h).1, (dr_is (neu_snd h)).1, (dv_neu h hs hp).1]; exact beq_self_eq_true _
theorem neu_K {k : Ky} {p : List Nat} (h : sndB k = true) (hs : k.s ≠ 0) (hp : ∀ i ∈ p, hdB i = false) (h0 : (drE k p != 0) = false) : drK k.neu p = (drK k p).neu ∧ pubV (drK k p).s = (drK k.neu p).p := by
  have e : drE k p = 0 := by simpa using h0
  have e' := e
  rw [(dr_is h).1] at e'
  have hh := (dv_neu h hs hp).2 e'
  rw [(dr_is h).2, (dr_is (neu_snd h)).2, hh.1]
  exact ⟨rfl, snd_pub (dv_snd h e') hh.2⟩
theorem cut_E {k : Ky} {p q r : List Nat} (h : sndB k = true) (e : r = p ++ q) (hf : (drE k p != 0) = true) : (drE k r == drE k p) = true := by
  have hf' : drE k p ≠ 0 := by simpa using hf
  rw [(dr_is h).1] at hf'
  rw [(dr_is h).1, (dr_is h).1, e, dvE_app, if_neg hf']; exact beq_self_eq_true _
theorem cut_K {k : Ky} {p q r : List Nat} (h : sndB k = true) (e : r = p ++ q) (hf : (drE k p != 0) = false) : drK k r = drK (drK k p) q ∧ (drE k r == drE (drK k p) q) = true := by
  have hf' : drE k p = 0 := by simpa using hf
  rw [(dr_is h).1] at hf'
  have hs : sndB (drK k p) = true := by rw [(dr_is h).2]; exact dv_snd h hf'
  rw [(dr_is hs).1, (dr_is hs).2, (dr_is h).1, (dr_is h).2, (dr_is h).2, e, dvE_app, dvK_app, if_pos hf', if_pos hf']
  exact ⟨rfl, beq_self_eq_true _⟩
theorem two_parts (p : List Nat) (n : Nat) : p = (p.take n).drop 0 ++ (p.take (nI p).length).drop n := by
  rw [nI_len, List.take_length, List.drop_zero, List.take_append_drop]
theorem all_take {P : Nat → Prop} {p : List Nat} (h : ∀ i ∈ p, P i) (a b : Nat) : ∀ i ∈ (p.take a).drop b, P i := fun i hi => h i (List.mem_of_mem_take (List.mem_of_mem_drop hi))
theorem kC_ky {k k' : Ky} (h : k = k') : kC k.s k.p k.c k.d ((k.i : Nat) : Int) ((k.n : Nat) : Int) = kC k'.s k'.p k'.c k'.d ((k'.i : Nat) : Int) ((k'.n : Nat) : Int) := by rw [h]
theorem mkK_s (zs : List Int) (j : Nat) : (mkK zs j true).s ≠ 0 := Nat.pos_iff_ne_zero.1 (mkX_pos zs j).1
theorem made_back (zs : List Int) (j : Nat) : (kdE (enB (mkK zs j true).neu) == 0) = true ∧ kdK (enB (mkK zs j true).neu) = (mkK zs j true).neu := by
  have h := en_back (Ky.neu_ok (mkK_ok zs j true)) (neu_snd (mkK_snd zs j true)) rfl
  exact ⟨by rw [h.1]; rfl, h.2⟩
end Go.Proofs.YtjdhjkceahaegaaDoor

/-! Trees of keys: bytes of keys: the walks. -/
namespace Go.Proofs.YtjdhjkceahaegaaDoor
open Go Go.RowKit

theorem kencode_any (k : Ky) (hk : k.Ok) (w0 : World) : Calls Tryd.prog 25 #[(.agg (kC k.s k.p k.c k.d ((k.i : Nat) : Int) ((k.n : Nat) : Int)))] w0 (fun ε w' => ∃ α κ, ε = .returned (.slice α (enB k).length κ) ∧ Below w0.heap.size w0 w' ∧ Fs w0 w' α κ (enB k)) := by
  refine Calls.of_ok (n := 34) (F := (fun _ => True)) Tryd.func25 rfl rfl rfl (by simp) (persTrue (fun _ => trivial)) ?_
  refine sS Tryd.f25 2 [1, 2] [] (fun ρ => [(pt (nb ρ 0)), (.slice none 0 0)]) (fun ρ => [(0, { news := [(nb ρ 0, (.cells (kC k.s k.p k.c k.d ((k.i : Nat) : Int) ((k.n : Nat) : Int)) 30 (0, 0)))] })]) (cR [[], []] <| cN) (fun ρ1 => ?_)
  refine sD Tryd.f25 [0, 1, 0, 4, 15] 5 [1, 2, 3, 4] [] (fun ρ => [(.pointer (some ⟨nb ρ1 0, 4, none⟩)), (U k.p), (pt (nb ρ 2)), (.int .u8 0), undef]) (fun ρ => [(2, { news := [(nb ρ 2, (.cells (cU 0) 25 (0, 0)))] }), (4, { puts := [(17, nb ρ 2, (.cells (cU k.p) 25 (0, 0)))] })]) (cR [[], [0], [], [], [17]] <| cN) (fun ρ2 => ?_)
  refine ok_seq ?_
  refine sS Tryd.f25 4 [1, 2, 3, 4, 11] [] (fun _ => [(pt (nb ρ1 0)), (U k.s), (U 0), (.bool (!decide (k.s = 0)))]) (fun _ => []) (cR [[], [0], []] <| cB (a := fun ρ => (U k.s)) (b := fun ρ => (U 0)) (v := fun ρ => (.bool (!decide (k.s = 0)))) .neq 25 (fun _ _ => neqU k.s 0 hk.s (by decide +kernel) _) <| cN) (fun _ => ?_)
  refine oC (!decide (k.s = 0)) (fun hb1 => ?_) (fun hb1 => ?_)
  ·
    rw [hb1]
    refine rD Tryd.f25 [0, 1, 0, 7] 4 [1, 2, 3, 4] [] (fun _ => [(pt (nb ρ1 0)), (U k.s), (.int .u8 1), undef]) (fun _ => [(3, { puts := [(1, nb ρ2 2, (.cells (cU k.s) 25 (0, 0)))] })]) (cR [[], [0], [], [1]] <| cN) (fun _ => ?_)
    refine mt_then ?_
    refine sSf Tryd.f25 9 [1, 2, 4, 5] [1, 1, 0] (fun ρ => [(.int .u8 1), (.pointer (some ⟨nb ρ1 0, 40, none⟩)), (.int .i64 k.d), (.int .u8 (dpI k.d)), (.slice (some ⟨nb ρ 4, 0, none⟩) (([ob 1, ob (dpI k.d)] : List UInt8)).length 2), (.pointer (some ⟨nb ρ1 0, 41, none⟩)), (.int .u32 ((k.i : Nat) : Int)), (.slice (oa ρ 7) (([ob 1, ob (dpI k.d)] : List UInt8) ++ leB k.i 4).length (nb ρ 7)), (.slice (oa ρ 7) (([ob 1, ob (dpI k.d)] : List UInt8) ++ leB k.i 4).length (nb ρ 7))]) (fun ρ => [(4, { news := [(nb ρ 4, (.cells #[(.int .u8 1), (.int .u8 (dpI k.d))] 5 (0, 0)))] })]) (fun ρ => [(7, fun w => Fs w0 w (oa ρ 7) (nb ρ 7) (([ob 1, ob (dpI k.d)] : List UInt8) ++ leB k.i 4))]) (fun ρ => (fun w => Fs w0 w (oa ρ 7) (nb ρ 7) (([ob 1, ob (dpI k.d)] : List UInt8) ++ leB k.i 4) ∧ True)) (fun _ => True) (fun _ _ _ hf => ⟨⟨hf 7, trivial⟩, trivial⟩) (cR [[], [], [0]] <| cA (v := fun ρ => (.int .u8 (IntKind.u8.wrap (k.d)))) (fun _ => (.int .u8 (dpI k.d))) (fun _ => congrArg (Value.int .u8) (rfl)) <| cR [[], [], [0]] <| cX (o_callB _ 46 (fun ρ => #[(.slice (some ⟨nb ρ 4, 0, none⟩) (([ob 1, ob (dpI k.d)] : List UInt8)).length 2), (.int .u32 ((k.i : Nat) : Int))]) (fun _ α κ => (.slice α (([ob 1, ob (dpI k.d)] : List UInt8) ++ leB k.i 4).length κ)) (fun _ => ([ob 1, ob (dpI k.d)] : List UInt8) ++ leB k.i 4) (fun _ _ => (by kernel_rfl)) (fun _ _ => (by kernel_rfl)) (fun _ _ => (by kernel_rfl)) (fun _ _ => (by kernel_rfl)) (fun ρ _ w hG => append32_any (some ⟨nb ρ 4, 0, none⟩) 2 ([ob 1, ob (dpI k.d)] : List UInt8) k.i (by have := hk.i; have := hk.n; omega) (by simp only [List.length_cons, List.length_nil]; have := hk.i; have := hk.n; omega) w (Bs.of_hd (hG.known (g := nb ρ 4) (o := (.cells #[(.int .u8 1), (.int .u8 (dpI k.d))] 5 (0, 0))) 34 (by kernel_rfl) (by kernel_rfl)) (hd2 (by decide) (dpI_rng _)) (Nat.le_refl 2) (Nat.le_of_ble_eq_true rfl)))) <| cR [[]] <| cN) (fun ρ5 _ => ?_)
    refine dRs [(1, (pt (nb ρ1 0))), (2, (.slice none 0 0)), (4, (pt (nb ρ2 2))), (5, (.slice (oa ρ5 7) (([ob 1, ob (dpI k.d)] : List UInt8) ++ leB k.i 4).length (nb ρ5 7)))] [(nb ρ1 0, (.cells (kC k.s k.p k.c k.d ((k.i : Nat) : Int) ((k.n : Nat) : Int)) 30 (0, 0))), (nb ρ2 2, (.cells (cU k.s) 25 (0, 0)))] ?_
    refine sSf Tryd.f25 5 [1, 2, 4, 5] [] (fun ρ => [(.slice (oa ρ5 7) (([ob 1, ob (dpI k.d)] : List UInt8) ++ leB k.i 4).length (nb ρ5 7)), (.pointer (some ⟨nb ρ1 0, 42, none⟩)), (.int .u32 ((k.n : Nat) : Int)), (.slice (oa ρ 3) ((([ob 1, ob (dpI k.d)] : List UInt8) ++ leB k.i 4) ++ leB k.n 4).length (nb ρ 3)), (.slice (oa ρ 3) ((([ob 1, ob (dpI k.d)] : List UInt8) ++ leB k.i 4) ++ leB k.n 4).length (nb ρ 3))]) (fun _ => []) (fun ρ => [(3, fun w => Fs w0 w (oa ρ 3) (nb ρ 3) ((([ob 1, ob (dpI k.d)] : List UInt8) ++ leB k.i 4) ++ leB k.n 4))]) (fun ρ => (fun w => Fs w0 w (oa ρ5 7) (nb ρ5 7) (([ob 1, ob (dpI k.d)] : List UInt8) ++ leB k.i 4) ∧ Fs w0 w (oa ρ 3) (nb ρ 3) ((([ob 1, ob (dpI k.d)] : List UInt8) ++ leB k.i 4) ++ leB k.n 4) ∧ True)) (fun _ => True) (fun _ _ hF hf => ⟨⟨hF.1, hf 3, trivial⟩, trivial⟩) (cR [[], [], [0]] <| cX (o_callB _ 46 (fun _ => #[(.slice (oa ρ5 7) (([ob 1, ob (dpI k.d)] : List UInt8) ++ leB k.i 4).length (nb ρ5 7)), (.int .u32 ((k.n : Nat) : Int))]) (fun _ α κ => (.slice α ((([ob 1, ob (dpI k.d)] : List UInt8) ++ leB k.i 4) ++ leB k.n 4).length κ)) (fun _ => (([ob 1, ob (dpI k.d)] : List UInt8) ++ leB k.i 4) ++ leB k.n 4) (fun _ _ => (by kernel_rfl)) (fun _ _ => (by kernel_rfl)) (fun _ _ => (by kernel_rfl)) (fun _ _ => (by kernel_rfl)) (fun _ _ w hG => append32_any (oa ρ5 7) (nb ρ5 7) (([ob 1, ob (dpI k.d)] : List UInt8) ++ leB k.i 4) k.n (by have := hk.i; have := hk.n; omega) (by simp only [List.length_append, List.length_cons, List.length_nil, leB_length]; have := hk.i; have := hk.n; omega) w hG.facts0.now.1.1)) <| cR [[]] <| cN) (fun ρ6 _ => ?_)
    refine sSf Tryd.f25 5 [2, 4, 5] [0, 1] (fun ρ => [(.slice (oa ρ6 3) ((([ob 1, ob (dpI k.d)] : List UInt8) ++ leB k.i 4) ++ leB k.n 4).length (nb ρ6 3)), (.pointer (some ⟨nb ρ1 0, 8, none⟩)), (.agg (hB k.c)), (.slice (oa ρ 3) (((([ob 1, ob (dpI k.d)] : List UInt8) ++ leB k.i 4) ++ leB k.n 4) ++ hL k.c).length (nb ρ 3)), (.slice (oa ρ 3) (((([ob 1, ob (dpI k.d)] : List UInt8) ++ leB k.i 4) ++ leB k.n 4) ++ hL k.c).length (nb ρ 3))]) (fun _ => []) (fun ρ => [(3, fun w => Fs w0 w (oa ρ 3) (nb ρ 3) (((([ob 1, ob (dpI k.d)] : List UInt8) ++ leB k.i 4) ++ leB k.n 4) ++ hL k.c))]) (fun ρ => (fun w => Fs w0 w (oa ρ5 7) (nb ρ5 7) (([ob 1, ob (dpI k.d)] : List UInt8) ++ leB k.i 4) ∧ Fs w0 w (oa ρ6 3) (nb ρ6 3) ((([ob 1, ob (dpI k.d)] : List UInt8) ++ leB k.i 4) ++ leB k.n 4) ∧ Fs w0 w (oa ρ 3) (nb ρ 3) (((([ob 1, ob (dpI k.d)] : List UInt8) ++ leB k.i 4) ++ leB k.n 4) ++ hL k.c) ∧ True)) (fun _ => True) (fun _ _ hF hf => ⟨⟨hF.1, hF.2.1, hf 3, trivial⟩, trivial⟩) (cR [[], [], [0]] <| cX (o_callB _ 47 (fun _ => #[(.slice (oa ρ6 3) ((([ob 1, ob (dpI k.d)] : List UInt8) ++ leB k.i 4) ++ leB k.n 4).length (nb ρ6 3)), (.agg (hB k.c))]) (fun _ α κ => (.slice α (((([ob 1, ob (dpI k.d)] : List UInt8) ++ leB k.i 4) ++ leB k.n 4) ++ hL k.c).length κ)) (fun _ => ((([ob 1, ob (dpI k.d)] : List UInt8) ++ leB k.i 4) ++ leB k.n 4) ++ hL k.c) (fun _ _ => (by kernel_rfl)) (fun _ _ => (by kernel_rfl)) (fun _ _ => (by kernel_rfl)) (fun _ _ => (by kernel_rfl)) (fun _ _ w hG => apphash_any (oa ρ6 3) (nb ρ6 3) ((([ob 1, ob (dpI k.d)] : List UInt8) ++ leB k.i 4) ++ leB k.n 4) k.c hk.c (by simp only [List.length_append, List.length_cons, List.length_nil, leB_length]; have := hk.i; have := hk.n; omega) w hG.facts0.now.2.1.1)) <| cR [[]] <| cN) (fun ρ7 _ => ?_)
    refine sSf Tryd.f25 5 [2] [0] (fun ρ => [(.slice (oa ρ7 3) (((([ob 1, ob (dpI k.d)] : List UInt8) ++ leB k.i 4) ++ leB k.n 4) ++ hL k.c).length (nb ρ7 3)), (U k.s), (.agg (hB k.s)), (.slice (oa ρ 3) ((((([ob 1, ob (dpI k.d)] : List UInt8) ++ leB k.i 4) ++ leB k.n 4) ++ hL k.c) ++ hL k.s).length (nb ρ 3)), (.slice (oa ρ 3) ((((([ob 1, ob (dpI k.d)] : List UInt8) ++ leB k.i 4) ++ leB k.n 4) ++ hL k.c) ++ hL k.s).length (nb ρ 3))]) (fun _ => []) (fun ρ => [(3, fun w => Fs w0 w (oa ρ 3) (nb ρ 3) ((((([ob 1, ob (dpI k.d)] : List UInt8) ++ leB k.i 4) ++ leB k.n 4) ++ hL k.c) ++ hL k.s))]) (fun ρ => (fun w => Fs w0 w (oa ρ5 7) (nb ρ5 7) (([ob 1, ob (dpI k.d)] : List UInt8) ++ leB k.i 4) ∧ Fs w0 w (oa ρ6 3) (nb ρ6 3) ((([ob 1, ob (dpI k.d)] : List UInt8) ++ leB k.i 4) ++ leB k.n 4) ∧ Fs w0 w (oa ρ7 3) (nb ρ7 3) (((([ob 1, ob (dpI k.d)] : List UInt8) ++ leB k.i 4) ++ leB k.n 4) ++ hL k.c) ∧ Fs w0 w (oa ρ 3) (nb ρ 3) ((((([ob 1, ob (dpI k.d)] : List UInt8) ++ leB k.i 4) ++ leB k.n 4) ++ hL k.c) ++ hL k.s) ∧ True)) (fun _ => True) (fun _ _ hF hf => ⟨⟨hF.1, hF.2.1, hF.2.2.1, hf 3, trivial⟩, trivial⟩) (cR [[], [0]] <| cC (fun _ w => bytes_any k.s w) <| cX (o_callB _ 47 (fun _ => #[(.slice (oa ρ7 3) (((([ob 1, ob (dpI k.d)] : List UInt8) ++ leB k.i 4) ++ leB k.n 4) ++ hL k.c).length (nb ρ7 3)), (.agg (hB k.s))]) (fun _ α κ => (.slice α ((((([ob 1, ob (dpI k.d)] : List UInt8) ++ leB k.i 4) ++ leB k.n 4) ++ hL k.c) ++ hL k.s).length κ)) (fun _ => (((([ob 1, ob (dpI k.d)] : List UInt8) ++ leB k.i 4) ++ leB k.n 4) ++ hL k.c) ++ hL k.s) (fun _ _ => (by kernel_rfl)) (fun _ _ => (by kernel_rfl)) (fun _ _ => (by kernel_rfl)) (fun _ _ => (by kernel_rfl)) (fun _ _ w hG => apphash_any (oa ρ7 3) (nb ρ7 3) (((([ob 1, ob (dpI k.d)] : List UInt8) ++ leB k.i 4) ++ leB k.n 4) ++ hL k.c) k.s hk.s (by simp only [List.length_append, List.length_cons, List.length_nil, leB_length, hL_length]; have := hk.i; have := hk.n; omega) w hG.facts0.now.2.2.1.1)) <| cR [[]] <| cN) (fun ρ8 _ => ?_)
    refine ok_ret ?_
    refine mD [(2, (.slice (oa ρ8 3) ((((([ob 1, ob (dpI k.d)] : List UInt8) ++ leB k.i 4) ++ leB k.n 4) ++ hL k.c) ++ hL k.s).length (nb ρ8 3)))] [] ?_
    exact mR (v := (.slice (oa ρ8 3) ((((([ob 1, ob (dpI k.d)] : List UInt8) ++ leB k.i 4) ++ leB k.n 4) ++ hL k.c) ++ hL k.s).length (nb ρ8 3))) (fun _ hS => ⟨oa ρ8 3, nb ρ8 3, congrArg Ending.returned (by rw [← en_1 (not_t hb1)]), hS.bel, fs_eq (en_1 (not_t hb1)) hS.facts.now.2.2.2.1⟩)
  ·
    rw [hb1]
    refine ok_skip ?_
    refine mt_then ?_
    refine sSf Tryd.f25 9 [1, 2, 4, 5] [1, 1, 0] (fun ρ => [(.int .u8 0), (.pointer (some ⟨nb ρ1 0, 40, none⟩)), (.int .i64 k.d), (.int .u8 (dpI k.d)), (.slice (some ⟨nb ρ 4, 0, none⟩) (([ob 0, ob (dpI k.d)] : List UInt8)).length 2), (.pointer (some ⟨nb ρ1 0, 41, none⟩)), (.int .u32 ((k.i : Nat) : Int)), (.slice (oa ρ 7) (([ob 0, ob (dpI k.d)] : List UInt8) ++ leB k.i 4).length (nb ρ 7)), (.slice (oa ρ 7) (([ob 0, ob (dpI k.d)] : List UInt8) ++ leB k.i 4).length (nb ρ 7))]) (fun ρ => [(4, { news := [(nb ρ 4, (.cells #[(.int .u8 0), (.int .u8 (dpI k.d))] 5 (0, 0)))] })]) (fun ρ => [(7, fun w => Fs w0 w (oa ρ 7) (nb ρ 7) (([ob 0, ob (dpI k.d)] : List UInt8) ++ leB k.i 4))]) (fun ρ => (fun w => Fs w0 w (oa ρ 7) (nb ρ 7) (([ob 0, ob (dpI k.d)] : List UInt8) ++ leB k.i 4) ∧ True)) (fun _ => True) (fun _ _ _ hf => ⟨⟨hf 7, trivial⟩, trivial⟩) (cR [[], [], [0]] <| cA (v := fun ρ => (.int .u8 (IntKind.u8.wrap (k.d)))) (fun _ => (.int .u8 (dpI k.d))) (fun _ => congrArg (Value.int .u8) (rfl)) <| cR [[], [], [0]] <| cX (o_callB _ 46 (fun ρ => #[(.slice (some ⟨nb ρ 4, 0, none⟩) (([ob 0, ob (dpI k.d)] : List UInt8)).length 2), (.int .u32 ((k.i : Nat) : Int))]) (fun _ α κ => (.slice α (([ob 0, ob (dpI k.d)] : List UInt8) ++ leB k.i 4).length κ)) (fun _ => ([ob 0, ob (dpI k.d)] : List UInt8) ++ leB k.i 4) (fun _ _ => (by kernel_rfl)) (fun _ _ => (by kernel_rfl)) (fun _ _ => (by kernel_rfl)) (fun _ _ => (by kernel_rfl)) (fun ρ _ w hG => append32_any (some ⟨nb ρ 4, 0, none⟩) 2 ([ob 0, ob (dpI k.d)] : List UInt8) k.i (by have := hk.i; have := hk.n; omega) (by simp only [List.length_cons, List.length_nil]; have := hk.i; have := hk.n; omega) w (Bs.of_hd (hG.known (g := nb ρ 4) (o := (.cells #[(.int .u8 0), (.int .u8 (dpI k.d))] 5 (0, 0))) 34 (by kernel_rfl) (by kernel_rfl)) (hd2 (by decide) (dpI_rng _)) (Nat.le_refl 2) (Nat.le_of_ble_eq_true rfl)))) <| cR [[]] <| cN) (fun ρ9 _ => ?_)
    refine sSf Tryd.f25 5 [1, 2, 4, 5] [] (fun ρ => [(.slice (oa ρ9 7) (([ob 0, ob (dpI k.d)] : List UInt8) ++ leB k.i 4).length (nb ρ9 7)), (.pointer (some ⟨nb ρ1 0, 42, none⟩)), (.int .u32 ((k.n : Nat) : Int)), (.slice (oa ρ 3) ((([ob 0, ob (dpI k.d)] : List UInt8) ++ leB k.i 4) ++ leB k.n 4).length (nb ρ 3)), (.slice (oa ρ 3) ((([ob 0, ob (dpI k.d)] : List UInt8) ++ leB k.i 4) ++ leB k.n 4).length (nb ρ 3))]) (fun _ => []) (fun ρ => [(3, fun w => Fs w0 w (oa ρ 3) (nb ρ 3) ((([ob 0, ob (dpI k.d)] : List UInt8) ++ leB k.i 4) ++ leB k.n 4))]) (fun ρ => (fun w => Fs w0 w (oa ρ9 7) (nb ρ9 7) (([ob 0, ob (dpI k.d)] : List UInt8) ++ leB k.i 4) ∧ Fs w0 w (oa ρ 3) (nb ρ 3) ((([ob 0, ob (dpI k.d)] : List UInt8) ++ leB k.i 4) ++ leB k.n 4) ∧ True)) (fun _ => True) (fun _ _ hF hf => ⟨⟨hF.1, hf 3, trivial⟩, trivial⟩) (cR [[], [], [0]] <| cX (o_callB _ 46 (fun _ => #[(.slice (oa ρ9 7) (([ob 0, ob (dpI k.d)] : List UInt8) ++ leB k.i 4).length (nb ρ9 7)), (.int .u32 ((k.n : Nat) : Int))]) (fun _ α κ => (.slice α ((([ob 0, ob (dpI k.d)] : List UInt8) ++ leB k.i 4) ++ leB k.n 4).length κ)) (fun _ => (([ob 0, ob (dpI k.d)] : List UInt8) ++ leB k.i 4) ++ leB k.n 4) (fun _ _ => (by kernel_rfl)) (fun _ _ => (by kernel_rfl)) (fun _ _ => (by kernel_rfl)) (fun _ _ => (by kernel_rfl)) (fun _ _ w hG => append32_any (oa ρ9 7) (nb ρ9 7) (([ob 0, ob (dpI k.d)] : List UInt8) ++ leB k.i 4) k.n (by have := hk.i; have := hk.n; omega) (by simp only [List.length_append, List.length_cons, List.length_nil, leB_length]; have := hk.i; have := hk.n; omega) w hG.facts0.now.1.1)) <| cR [[]] <| cN) (fun ρ10 _ => ?_)
    refine dRs [(1, (pt (nb ρ1 0))), (2, (.slice none 0 0)), (4, (pt (nb ρ2 2))), (5, (.slice (oa ρ10 3) ((([ob 0, ob (dpI k.d)] : List UInt8) ++ leB k.i 4) ++ leB k.n 4).length (nb ρ10 3)))] [(nb ρ1 0, (.cells (kC k.s k.p k.c k.d ((k.i : Nat) : Int) ((k.n : Nat) : Int)) 30 (0, 0))), (nb ρ2 2, (.cells (cU k.p) 25 (0, 0)))] ?_
    refine sSf Tryd.f25 5 [2, 4, 5] [0, 1] (fun ρ => [(.slice (oa ρ10 3) ((([ob 0, ob (dpI k.d)] : List UInt8) ++ leB k.i 4) ++ leB k.n 4).length (nb ρ10 3)), (.pointer (some ⟨nb ρ1 0, 8, none⟩)), (.agg (hB k.c)), (.slice (oa ρ 3) (((([ob 0, ob (dpI k.d)] : List UInt8) ++ leB k.i 4) ++ leB k.n 4) ++ hL k.c).length (nb ρ 3)), (.slice (oa ρ 3) (((([ob 0, ob (dpI k.d)] : List UInt8) ++ leB k.i 4) ++ leB k.n 4) ++ hL k.c).length (nb ρ 3))]) (fun _ => []) (fun ρ => [(3, fun w => Fs w0 w (oa ρ 3) (nb ρ 3) (((([ob 0, ob (dpI k.d)] : List UInt8) ++ leB k.i 4) ++ leB k.n 4) ++ hL k.c))]) (fun ρ => (fun w => Fs w0 w (oa ρ9 7) (nb ρ9 7) (([ob 0, ob (dpI k.d)] : List UInt8) ++ leB k.i 4) ∧ Fs w0 w (oa ρ10 3) (nb ρ10 3) ((([ob 0, ob (dpI k.d)] : List UInt8) ++ leB k.i 4) ++ leB k.n 4) ∧ Fs w0 w (oa ρ 3) (nb ρ 3) (((([ob 0, ob (dpI k.d)] : List UInt8) ++ leB k.i 4) ++ leB k.n 4) ++ hL k.c) ∧ True)) (fun _ => True) (fun _ _ hF hf => ⟨⟨hF.1, hF.2.1, hf 3, trivial⟩, trivial⟩) (cR [[], [], [0]] <| cX (o_callB _ 47 (fun _ => #[(.slice (oa ρ10 3) ((([ob 0, ob (dpI k.d)] : List UInt8) ++ leB k.i 4) ++ leB k.n 4).length (nb ρ10 3)), (.agg (hB k.c))]) (fun _ α κ => (.slice α (((([ob 0, ob (dpI k.d)] : List UInt8) ++ leB k.i 4) ++ leB k.n 4) ++ hL k.c).length κ)) (fun _ => ((([ob 0, ob (dpI k.d)] : List UInt8) ++ leB k.i 4) ++ leB k.n 4) ++ hL k.c) (fun _ _ => (by kernel_rfl)) (fun _ _ => (by kernel_rfl)) (fun _ _ => (by kernel_rfl)) (fun _ _ => (by kernel_rfl)) (fun _ _ w hG => apphash_any (oa ρ10 3) (nb ρ10 3) ((([ob 0, ob (dpI k.d)] : List UInt8) ++ leB k.i 4) ++ leB k.n 4) k.c hk.c (by simp only [List.length_append, List.length_cons, List.length_nil, leB_length]; have := hk.i; have := hk.n; omega) w hG.facts0.now.2.1.1)) <| cR [[]] <| cN) (fun ρ11 _ => ?_)
    refine sSf Tryd.f25 5 [2] [0] (fun ρ => [(.slice (oa ρ11 3) (((([ob 0, ob (dpI k.d)] : List UInt8) ++ leB k.i 4) ++ leB k.n 4) ++ hL k.c).length (nb ρ11 3)), (U k.p), (.agg (hB k.p)), (.slice (oa ρ 3) ((((([ob 0, ob (dpI k.d)] : List UInt8) ++ leB k.i 4) ++ leB k.n 4) ++ hL k.c) ++ hL k.p).length (nb ρ 3)), (.slice (oa ρ 3) ((((([ob 0, ob (dpI k.d)] : List UInt8) ++ leB k.i 4) ++ leB k.n 4) ++ hL k.c) ++ hL k.p).length (nb ρ 3))]) (fun _ => []) (fun ρ => [(3, fun w => Fs w0 w (oa ρ 3) (nb ρ 3) ((((([ob 0, ob (dpI k.d)] : List UInt8) ++ leB k.i 4) ++ leB k.n 4) ++ hL k.c) ++ hL k.p))]) (fun ρ => (fun w => Fs w0 w (oa ρ9 7) (nb ρ9 7) (([ob 0, ob (dpI k.d)] : List UInt8) ++ leB k.i 4) ∧ Fs w0 w (oa ρ10 3) (nb ρ10 3) ((([ob 0, ob (dpI k.d)] : List UInt8) ++ leB k.i 4) ++ leB k.n 4) ∧ Fs w0 w (oa ρ11 3) (nb ρ11 3) (((([ob 0, ob (dpI k.d)] : List UInt8) ++ leB k.i 4) ++ leB k.n 4) ++ hL k.c) ∧ Fs w0 w (oa ρ 3) (nb ρ 3) ((((([ob 0, ob (dpI k.d)] : List UInt8) ++ leB k.i 4) ++ leB k.n 4) ++ hL k.c) ++ hL k.p) ∧ True)) (fun _ => True) (fun _ _ hF hf => ⟨⟨hF.1, hF.2.1, hF.2.2.1, hf 3, trivial⟩, trivial⟩) (cR [[], [0]] <| cC (fun _ w => bytes_any k.p w) <| cX (o_callB _ 47 (fun _ => #[(.slice (oa ρ11 3) (((([ob 0, ob (dpI k.d)] : List UInt8) ++ leB k.i 4) ++ leB k.n 4) ++ hL k.c).length (nb ρ11 3)), (.agg (hB k.p))]) (fun _ α κ => (.slice α ((((([ob 0, ob (dpI k.d)] : List UInt8) ++ leB k.i 4) ++ leB k.n 4) ++ hL k.c) ++ hL k.p).length κ)) (fun _ => (((([ob 0, ob (dpI k.d)] : List UInt8) ++ leB k.i 4) ++ leB k.n 4) ++ hL k.c) ++ hL k.p) (fun _ _ => (by kernel_rfl)) (fun _ _ => (by kernel_rfl)) (fun _ _ => (by kernel_rfl)) (fun _ _ => (by kernel_rfl)) (fun _ _ w hG => apphash_any (oa ρ11 3) (nb ρ11 3) (((([ob 0, ob (dpI k.d)] : List UInt8) ++ leB k.i 4) ++ leB k.n 4) ++ hL k.c) k.p hk.p (by simp only [List.length_append, List.length_cons, List.length_nil, leB_length, hL_length]; have := hk.i; have := hk.n; omega) w hG.facts0.now.2.2.1.1)) <| cR [[]] <| cN) (fun ρ12 _ => ?_)
    refine ok_ret ?_
    refine mD [(2, (.slice (oa ρ12 3) ((((([ob 0, ob (dpI k.d)] : List UInt8) ++ leB k.i 4) ++ leB k.n 4) ++ hL k.c) ++ hL k.p).length (nb ρ12 3)))] [] ?_
    exact mR (v := (.slice (oa ρ12 3) ((((([ob 0, ob (dpI k.d)] : List UInt8) ++ leB k.i 4) ++ leB k.n 4) ++ hL k.c) ++ hL k.p).length (nb ρ12 3))) (fun _ hS => ⟨oa ρ12 3, nb ρ12 3, congrArg Ending.returned (by rw [← en_0 (not_f hb1)]), hS.bel, fs_eq (en_0 (not_f hb1)) hS.facts.now.2.2.2.1⟩)

theorem kdecode_any (a : Option Addr) (c : Nat) (B : List UInt8) (w0 : World) (hf0 : Bs w0 a c B) : Calls Tryd.prog 24 #[(.slice a (B).length c)] w0 (fun ε w' => ε = .returned (.tuple #[(.agg (kC ((kdK B).s) ((kdK B).p) ((kdK B).c) ((kdK B).d) (((kdK B).i : Nat) : Int) (((kdK B).n : Nat) : Int))), (.int .i64 (kdE B))]) ∧ Below w0.heap.size w0 w') := by
  refine Calls.of_ok (n := 84) (F := (fun w => Bs w a c B ∧ True)) Tryd.func24 rfl rfl rfl (by simp) (hf0.pers0.and persT) ?_
  have hBl : B.length ≤ 140737488351232 := hf0.max
  refine sS Tryd.f24 2 [0, 2, 3] [] (fun ρ => [(pt (nb ρ 0)), (.int .i64 0)]) (fun ρ => [(0, { news := [(nb ρ 0, (.cells (kC 0 0 0 0 0 0) 30 (0, 0)))] })]) (cR [[], []] <| cN) (fun ρ1 => ?_)
  refine ok_seq ?_
  refine sS Tryd.f24 3 [0, 2, 3, 13] [] (fun _ => [(.slice a (B).length c), (.int .i64 (((B).length : Nat) : Int)), (.bool ((((B).length : Nat) : Int) != 74))]) (fun _ => []) (cR [[], [], []] <| cN) (fun _ => ?_)
  refine oC ((((B).length : Nat) : Int) != 74) (fun hb1 => ?_) (fun hb1 => ?_)
  ·
    rw [hb1]
    refine sS Tryd.f24 3 [0, 2, 3] [] (fun _ => [(.agg (kC 0 0 0 0 0 0)), undef, (.int .i64 8)]) (fun _ => [(1, { puts := [(0, nb ρ1 0, (.cells (kC 0 0 0 0 0 0) 30 (0, 0)))] })]) (cR [[], [0], []] <| cN) (fun _ => ?_)
    refine ok_ret ?_
    refine mt_then_r ?_
    exact mR (v := (.tuple #[(.agg (kC 0 0 0 0 0 0)), (.int .i64 8)])) (fun _ hS => ⟨by rw [(dc_8 (len74n hb1)).1, (dc_8 (len74n hb1)).2]; rfl, hS.bel⟩)
  ·
    rw [hb1]
    refine ok_skip ?_
    refine mt_then ?_
    refine ok_seq ?_
    rcases Bool.eq_false_or_eq_true (decide (1 < ((gB B 0 : Nat) : Int))) with hb2 | hb2
    ·
      refine sS Tryd.f24 10 [0, 2, 3, 24] [] (fun _ => [(.slice a (B).length c), (.pointer (adr a 0)), (.int .u8 ((gB B 0 : Nat) : Int)), (.bool true), (.bool true), undef, undef, undef, undef, (.bool true)]) (fun _ => []) (cR [[]] <| cX (o_semF _ (fun _ => do pure (Next.value (← Instr.indexAt 50 (.slice a (B).length c) (.int .i64 0)))) (fun _ => (.pointer (adr a 0))) (fun _ => (by kernel_rfl)) (fun _ => (by kernel_rfl)) (fun _ _ _ hG => idx_bytes Tryd.underlying50 u8i hG.facts0.now.1 rfl ((show 0 = ((0 : Nat) : Int) ∧ 0 < (B).length from ⟨rfl, (by have := (len74 hb1); omega)⟩)).1 ((show 0 = ((0 : Nat) : Int) ∧ 0 < (B).length from ⟨rfl, (by have := (len74 hb1); omega)⟩)).2) (fun _ _ _ _ => persT)) <| cX (o_semF _ (fun _ => do pure (Next.value (← Instr.loadAt 5 (.pointer (adr a 0))))) (fun _ => (.int .u8 ((gB B 0 : Nat) : Int))) (fun _ => (by kernel_rfl)) (fun _ => (by kernel_rfl)) (fun _ _ _ hG => ld_bytes Tryd.isAgg5 hG.facts0.now.1 ((show 0 = ((0 : Nat) : Int) ∧ 0 < (B).length from ⟨rfl, (by have := (len74 hb1); omega)⟩)).2) (fun _ _ _ _ => persT)) <| cA (fun _ => (.bool true)) (fun _ => congrArg Value.bool hb2) <| cR [[], [], [], [], [], []] <| cN) (fun _ => ?_)
      refine oY ?_
      refine sS Tryd.f24 3 [0, 2, 3] [] (fun _ => [(.agg (kC 0 0 0 0 0 0)), undef, (.int .i64 5)]) (fun _ => [(1, { puts := [(0, nb ρ1 0, (.cells (kC 0 0 0 0 0 0) 30 (0, 0)))] })]) (cR [[], [0], []] <| cN) (fun _ => ?_)
      refine ok_ret ?_
      refine mt_then_r ?_
      exact mR (v := (.tuple #[(.agg (kC 0 0 0 0 0 0)), (.int .i64 5)])) (fun _ hS => ⟨by rw [(dc_5 (len74 hb1) (Or.inl (by have := of_decide_eq_true hb2; omega))).1, (dc_5 (len74 hb1) (Or.inl (by have := of_decide_eq_true hb2; omega))).2]; rfl, hS.bel⟩)
    ·
      refine sS Tryd.f24 10 [0, 2, 3, 24] [] (fun _ => [(.slice a (B).length c), (.pointer (adr a 0)), (.int .u8 ((gB B 0 : Nat) : Int)), (.bool false), (.bool false), (.slice a (B).length c), (.pointer (adr a 1)), (.int .u8 ((gB B 1 : Nat) : Int)), (.bool (decide (8 < ((gB B 1 : Nat) : Int)))), (.bool (decide (8 < ((gB B 1 : Nat) : Int))))]) (fun _ => []) (cR [[]] <| cX (o_semF _ (fun _ => do pure (Next.value (← Instr.indexAt 50 (.slice a (B).length c) (.int .i64 0)))) (fun _ => (.pointer (adr a 0))) (fun _ => (by kernel_rfl)) (fun _ => (by kernel_rfl)) (fun _ _ _ hG => idx_bytes Tryd.underlying50 u8i hG.facts0.now.1 rfl ((show 0 = ((0 : Nat) : Int) ∧ 0 < (B).length from ⟨rfl, (by have := (len74 hb1); omega)⟩)).1 ((show 0 = ((0 : Nat) : Int) ∧ 0 < (B).length from ⟨rfl, (by have := (len74 hb1); omega)⟩)).2) (fun _ _ _ _ => persT)) <| cX (o_semF _ (fun _ => do pure (Next.value (← Instr.loadAt 5 (.pointer (adr a 0))))) (fun _ => (.int .u8 ((gB B 0 : Nat) : Int))) (fun _ => (by kernel_rfl)) (fun _ => (by kernel_rfl)) (fun _ _ _ hG => ld_bytes Tryd.isAgg5 hG.facts0.now.1 ((show 0 = ((0 : Nat) : Int) ∧ 0 < (B).length from ⟨rfl, (by have := (len74 hb1); omega)⟩)).2) (fun _ _ _ _ => persT)) <| cA (fun _ => (.bool false)) (fun _ => congrArg Value.bool hb2) <| cR [[], []] <| cX (o_semF _ (fun _ => do pure (Next.value (← Instr.indexAt 50 (.slice a (B).length c) (.int .i64 1)))) (fun _ => (.pointer (adr a 1))) (fun _ => (by kernel_rfl)) (fun _ => (by kernel_rfl)) (fun _ _ _ hG => idx_bytes Tryd.underlying50 u8i hG.facts0.now.1 rfl ((show 1 = ((1 : Nat) : Int) ∧ 1 < (B).length from ⟨rfl, (by have := (len74 hb1); omega)⟩)).1 ((show 1 = ((1 : Nat) : Int) ∧ 1 < (B).length from ⟨rfl, (by have := (len74 hb1); omega)⟩)).2) (fun _ _ _ _ => persT)) <| cX (o_semF _ (fun _ => do pure (Next.value (← Instr.loadAt 5 (.pointer (adr a 1))))) (fun _ => (.int .u8 ((gB B 1 : Nat) : Int))) (fun _ => (by kernel_rfl)) (fun _ => (by kernel_rfl)) (fun _ _ _ hG => ld_bytes Tryd.isAgg5 hG.facts0.now.1 ((show 1 = ((1 : Nat) : Int) ∧ 1 < (B).length from ⟨rfl, (by have := (len74 hb1); omega)⟩)).2) (fun _ _ _ _ => persT)) <| cR [[], []] <| cN) (fun _ => ?_)
      refine oC (decide (8 < ((gB B 1 : Nat) : Int))) (fun hb3 => ?_) (fun hb3 => ?_)
      ·
        rw [hb3]
        refine sS Tryd.f24 3 [0, 2, 3] [] (fun _ => [(.agg (kC 0 0 0 0 0 0)), undef, (.int .i64 5)]) (fun _ => [(1, { puts := [(0, nb ρ1 0, (.cells (kC 0 0 0 0 0 0) 30 (0, 0)))] })]) (cR [[], [0], []] <| cN) (fun _ => ?_)
        refine ok_ret ?_
        refine mt_then_r ?_
        exact mR (v := (.tuple #[(.agg (kC 0 0 0 0 0 0)), (.int .i64 5)])) (fun _ hS => ⟨by rw [(dc_5 (len74 hb1) (Or.inr (by have := of_decide_eq_true hb3; omega))).1, (dc_5 (len74 hb1) (Or.inr (by have := of_decide_eq_true hb3; omega))).2]; rfl, hS.bel⟩)
      ·
        rw [hb3]
        refine ok_skip ?_
        refine mt_then ?_
        refine sS Tryd.f24 7 [0, 2, 3, 4] [] (fun ρ => [(.slice a (B).length c), (.pointer (adr a 1)), (.int .u8 ((gB B 1 : Nat) : Int)), (.int .i64 ((gB B 1 : Nat) : Int)), (.agg (kC 0 0 0 ((gB B 1 : Nat) : Int) 0 0)), (pt (nb ρ 5)), undef]) (fun ρ => [(5, { news := [(nb ρ 5, (.cells (kC 0 0 0 0 0 0) 30 (0, 0)))] }), (6, { puts := [(41, nb ρ 5, (.cells (kC 0 0 0 ((gB B 1 : Nat) : Int) 0 0) 30 (0, 0)))] })]) (cR [[]] <| cX (o_semF _ (fun _ => do pure (Next.value (← Instr.indexAt 50 (.slice a (B).length c) (.int .i64 1)))) (fun _ => (.pointer (adr a 1))) (fun _ => (by kernel_rfl)) (fun _ => (by kernel_rfl)) (fun _ _ _ hG => idx_bytes Tryd.underlying50 u8i hG.facts0.now.1 rfl ((show 1 = ((1 : Nat) : Int) ∧ 1 < (B).length from ⟨rfl, (by have := (len74 hb1); omega)⟩)).1 ((show 1 = ((1 : Nat) : Int) ∧ 1 < (B).length from ⟨rfl, (by have := (len74 hb1); omega)⟩)).2) (fun _ _ _ _ => persT)) <| cX (o_semF _ (fun _ => do pure (Next.value (← Instr.loadAt 5 (.pointer (adr a 1))))) (fun _ => (.int .u8 ((gB B 1 : Nat) : Int))) (fun _ => (by kernel_rfl)) (fun _ => (by kernel_rfl)) (fun _ _ _ hG => ld_bytes Tryd.isAgg5 hG.facts0.now.1 ((show 1 = ((1 : Nat) : Int) ∧ 1 < (B).length from ⟨rfl, (by have := (len74 hb1); omega)⟩)).2) (fun _ _ _ _ => persT)) <| cA (v := fun ρ => (.int .i64 (IntKind.i64.wrap (((gB B 1 : Nat) : Int))))) (fun _ => (.int .i64 ((gB B 1 : Nat) : Int))) (fun _ => congrArg (Value.int .i64) (i64N (by have := of_decide_eq_false hb2; have := of_decide_eq_false hb3; have := gB_lt B 1; omega))) <| cR [[], [], [41]] <| cN) (fun ρ8 => ?_)
        refine sS Tryd.f24 8 [0, 2, 3, 4] [] (fun _ => [(.slice a (B).length c), (.tuple #[(.int .u32 ((rdV B 2 4 : Nat) : Int)), (.int .i64 (rdN B.length 2 4)), (.int .i64 (rdE B.length 2 4))]), (.tuple #[(.int .u32 ((rdV B 2 4 : Nat) : Int)), (.int .i64 (rdN B.length 2 4)), (.int .i64 (rdE B.length 2 4))]), (.int .u32 ((rdV B 2 4 : Nat) : Int)), (.int .i64 (rdN B.length 2 4)), (.int .i64 (rdE B.length 2 4)), (.pointer (some ⟨nb ρ8 5, 41, none⟩)), undef]) (fun _ => [(7, { puts := [(1, nb ρ8 5, (.cells (kC 0 0 0 ((gB B 1 : Nat) : Int) ((rdV B 2 4 : Nat) : Int) 0) 30 (0, 0)))] })]) (cR [[]] <| cX (o_callP _ 43 (fun _ => #[(.slice a (B).length c), (.int .i64 2)]) (fun _ => (.tuple #[(.int .u32 ((rdV B 2 4 : Nat) : Int)), (.int .i64 (rdN B.length 2 4)), (.int .i64 (rdE B.length 2 4))])) (fun _ _ => (by kernel_rfl)) (fun _ => (by kernel_rfl)) (fun _ _ => (by kernel_rfl)) (fun _ _ => trivial) (fun _ _ w hG => u32_any a c B 2 (by decide) hBl w hG.facts0.now.1)) <| cR [[], [], [], [], [], [1]] <| cN) (fun _ => ?_)
        refine dRs [(0, (.slice a (B).length c)), (2, (pt (nb ρ1 0))), (3, (.int .i64 0)), (4, (pt (nb ρ8 5)))] [(nb ρ1 0, (.cells (kC 0 0 0 0 0 0) 30 (0, 0))), (nb ρ8 5, (.cells (kC 0 0 0 ((gB B 1 : Nat) : Int) ((rdV B 2 4 : Nat) : Int) 0) 30 (0, 0)))] ?_
        refine sS Tryd.f24 8 [0, 2, 3, 4] [] (fun _ => [(.slice a (B).length c), (.tuple #[(.int .u32 ((rdV B 6 4 : Nat) : Int)), (.int .i64 (rdN B.length 6 4)), (.int .i64 (rdE B.length 6 4))]), (.tuple #[(.int .u32 ((rdV B 6 4 : Nat) : Int)), (.int .i64 (rdN B.length 6 4)), (.int .i64 (rdE B.length 6 4))]), (.int .u32 ((rdV B 6 4 : Nat) : Int)), (.int .i64 (rdN B.length 6 4)), (.int .i64 (rdE B.length 6 4)), (.pointer (some ⟨nb ρ8 5, 42, none⟩)), undef]) (fun _ => [(7, { puts := [(1, nb ρ8 5, (.cells (kC 0 0 0 ((gB B 1 : Nat) : Int) ((rdV B 2 4 : Nat) : Int) ((rdV B 6 4 : Nat) : Int)) 30 (0, 0)))] })]) (cR [[]] <| cX (o_callP _ 43 (fun _ => #[(.slice a (B).length c), (.int .i64 6)]) (fun _ => (.tuple #[(.int .u32 ((rdV B 6 4 : Nat) : Int)), (.int .i64 (rdN B.length 6 4)), (.int .i64 (rdE B.length 6 4))])) (fun _ _ => (by kernel_rfl)) (fun _ => (by kernel_rfl)) (fun _ _ => (by kernel_rfl)) (fun _ _ => trivial) (fun _ _ w hG => u32_any a c B 6 (by decide) hBl w hG.facts0.now.1)) <| cR [[], [], [], [], [], [1]] <| cN) (fun _ => ?_)
        refine sS Tryd.f24 8 [0, 2, 3, 4] [] (fun _ => [(.slice a (B).length c), (.tuple #[(.agg (hB (hsV B 10))), (.int .i64 (rdN B.length 10 32)), (.int .i64 (rdE B.length 10 32))]), (.tuple #[(.agg (hB (hsV B 10))), (.int .i64 (rdN B.length 10 32)), (.int .i64 (rdE B.length 10 32))]), (.agg (hB (hsV B 10))), (.int .i64 (rdN B.length 10 32)), (.int .i64 (rdE B.length 10 32)), (.pointer (some ⟨nb ρ8 5, 8, none⟩)), undef]) (fun _ => [(7, { puts := [(1, nb ρ8 5, (.cells (kC 0 0 (hsV B 10) ((gB B 1 : Nat) : Int) ((rdV B 2 4 : Nat) : Int) ((rdV B 6 4 : Nat) : Int)) 30 (0, 0)))] })]) (cR [[]] <| cX (o_callP _ 44 (fun _ => #[(.slice a (B).length c), (.int .i64 10)]) (fun _ => (.tuple #[(.agg (hB (hsV B 10))), (.int .i64 (rdN B.length 10 32)), (.int .i64 (rdE B.length 10 32))])) (fun _ _ => (by kernel_rfl)) (fun _ => (by kernel_rfl)) (fun _ _ => (by kernel_rfl)) (fun _ _ => trivial) (fun _ _ w hG => hash_any a c B 10 (by decide) hBl w hG.facts0.now.1)) <| cR [[], [], [], [], [], [1]] <| cN) (fun _ => ?_)
        refine sS Tryd.f24 10 [0, 2, 3, 4, 5] [] (fun ρ => [(.slice a (B).length c), (.tuple #[(.agg (hB (hsV B 42))), (.int .i64 (rdN B.length 42 32)), (.int .i64 (rdE B.length 42 32))]), (.tuple #[(.agg (hB (hsV B 42))), (.int .i64 (rdN B.length 42 32)), (.int .i64 (rdE B.length 42 32))]), (.agg (hB (hsV B 42))), (.int .i64 (rdN B.length 42 32)), (.int .i64 (rdE B.length 42 32)), (pt (nb ρ 6)), undef, (.int .i64 (rdN B.length 42 32)), (.int .i64 (rdE B.length 42 32))]) (fun ρ => [(6, { news := [(nb ρ 6, (.cells (hB 0) 27 (0, 0)))] }), (7, { puts := [(50, nb ρ 6, (.cells (hB (hsV B 42)) 27 (0, 0)))] })]) (cR [[]] <| cX (o_callP _ 44 (fun _ => #[(.slice a (B).length c), (.int .i64 42)]) (fun _ => (.tuple #[(.agg (hB (hsV B 42))), (.int .i64 (rdN B.length 42 32)), (.int .i64 (rdE B.length 42 32))])) (fun _ _ => (by kernel_rfl)) (fun _ => (by kernel_rfl)) (fun _ _ => (by kernel_rfl)) (fun _ _ => trivial) (fun _ _ w hG => hash_any a c B 42 (by decide) hBl w hG.facts0.now.1)) <| cR [[], [], [], [], [], [50], [], []] <| cN) (fun _ => ?_)
        refine sS Tryd.f24 4 [0, 2, 3, 4, 8] [1, 1, 0, 1] (fun ρ => [(.agg (hB (hsV B 42))), (U (hsV B 42)), (pt (nb ρ 2)), undef]) (fun ρ => [(2, { news := [(nb ρ 2, (.cells (cU 0) 25 (0, 0)))] }), (3, { puts := [(19, nb ρ 2, (.cells (cU (hsV B 42)) 25 (0, 0)))] })]) (cR [[2]] <| cC (fun _ w => frombytes_any (hsV B 42) w) <| cR [[], [19]] <| cN) (fun ρ13 => ?_)
        refine ok_seq ?_
        refine sS Tryd.f24 4 [2, 3, 4, 8, 63] [] (fun _ => [(.slice a (B).length c), (.pointer (adr a 0)), (.int .u8 ((gB B 0 : Nat) : Int)), (.bool (((gB B 0 : Nat) : Int) == 0))]) (fun _ => []) (cR [[]] <| cX (o_semF _ (fun _ => do pure (Next.value (← Instr.indexAt 50 (.slice a (B).length c) (.int .i64 0)))) (fun _ => (.pointer (adr a 0))) (fun _ => (by kernel_rfl)) (fun _ => (by kernel_rfl)) (fun _ _ _ hG => idx_bytes Tryd.underlying50 u8i hG.facts0.now.1 rfl ((show 0 = ((0 : Nat) : Int) ∧ 0 < (B).length from ⟨rfl, (by have := (len74 hb1); omega)⟩)).1 ((show 0 = ((0 : Nat) : Int) ∧ 0 < (B).length from ⟨rfl, (by have := (len74 hb1); omega)⟩)).2) (fun _ _ _ _ => persT)) <| cX (o_semF _ (fun _ => do pure (Next.value (← Instr.loadAt 5 (.pointer (adr a 0))))) (fun _ => (.int .u8 ((gB B 0 : Nat) : Int))) (fun _ => (by kernel_rfl)) (fun _ => (by kernel_rfl)) (fun _ _ _ hG => ld_bytes Tryd.isAgg5 hG.facts0.now.1 ((show 0 = ((0 : Nat) : Int) ∧ 0 < (B).length from ⟨rfl, (by have := (len74 hb1); omega)⟩)).2) (fun _ _ _ _ => persT)) <| cR [[]] <| cN) (fun _ => ?_)
        refine dRs [(2, (pt (nb ρ1 0))), (3, (.int .i64 0)), (4, (pt (nb ρ8 5))), (8, (pt (nb ρ13 2))), (63, (.bool (((gB B 0 : Nat) : Int) == 0)))] [(nb ρ1 0, (.cells (kC 0 0 0 0 0 0) 30 (0, 0))), (nb ρ8 5, (.cells (kC 0 0 (hsV B 10) ((gB B 1 : Nat) : Int) ((rdV B 2 4 : Nat) : Int) ((rdV B 6 4 : Nat) : Int)) 30 (0, 0))), (nb ρ13 2, (.cells (cU (hsV B 42)) 25 (0, 0)))] ?_
        refine oC (((gB B 0 : Nat) : Int) == 0) (fun hb4 => ?_) (fun hb4 => ?_)
        ·
          rw [hb4]
          refine ok_seq ?_
          refine sS Tryd.f24 3 [2, 3, 4, 8, 66] [] (fun _ => [(U (hsV B 42)), (.bool (valB (hsV B 42))), (.bool (!(valB (hsV B 42))))]) (fun _ => []) (cR [[2]] <| cC (fun _ w => valid_any (hsV B 42) hsV_lt w) <| cR [[]] <| cN) (fun _ => ?_)
          refine oC (!(valB (hsV B 42))) (fun hb5 => ?_) (fun hb5 => ?_)
          ·
            rw [hb5]
            refine sS Tryd.f24 3 [2, 3, 4, 8] [] (fun _ => [(.agg (kC 0 0 0 0 0 0)), undef, (.int .i64 60)]) (fun _ => [(1, { puts := [(0, nb ρ1 0, (.cells (kC 0 0 0 0 0 0) 30 (0, 0)))] })]) (cR [[], [0], []] <| cN) (fun _ => ?_)
            refine ok_ret ?_
            refine mt_then_r ?_
            refine mt_then_r ?_
            exact mR (v := (.tuple #[(.agg (kC 0 0 0 0 0 0)), (.int .i64 60)])) (fun _ hS => ⟨by rw [(dc_v0 (len74 hb1) (by have := of_decide_eq_false hb2; have := of_decide_eq_false hb3; omega) (b01 hb4) (not_t hb5)).1, (dc_v0 (len74 hb1) (by have := of_decide_eq_false hb2; have := of_decide_eq_false hb3; omega) (b01 hb4) (not_t hb5)).2]; rfl, hS.bel⟩)
          ·
            rw [hb5]
            refine ok_skip ?_
            refine mt_then ?_
            refine sS Tryd.f24 3 [2, 3, 4, 8] [] (fun _ => [(U (hsV B 42)), (.pointer (some ⟨nb ρ8 5, 4, none⟩)), undef]) (fun _ => [(2, { puts := [(1, nb ρ8 5, (.cells (kC 0 (hsV B 42) (hsV B 10) ((gB B 1 : Nat) : Int) ((rdV B 2 4 : Nat) : Int) ((rdV B 6 4 : Nat) : Int)) 30 (0, 0)))] })]) (cR [[2], [], [1]] <| cN) (fun _ => ?_)
            refine sS Tryd.f24 3 [2, 3, 4, 8] [] (fun _ => [(.agg (kC 0 (hsV B 42) (hsV B 10) ((gB B 1 : Nat) : Int) ((rdV B 2 4 : Nat) : Int) ((rdV B 6 4 : Nat) : Int))), undef, (.int .i64 0)]) (fun _ => [(1, { puts := [(0, nb ρ1 0, (.cells (kC 0 (hsV B 42) (hsV B 10) ((gB B 1 : Nat) : Int) ((rdV B 2 4 : Nat) : Int) ((rdV B 6 4 : Nat) : Int)) 30 (0, 0)))] })]) (cR [[1], [0], []] <| cN) (fun _ => ?_)
            refine ok_ret ?_
            refine mt_then_r ?_
            exact mR (v := (.tuple #[(.agg (kC 0 (hsV B 42) (hsV B 10) ((gB B 1 : Nat) : Int) ((rdV B 2 4 : Nat) : Int) ((rdV B 6 4 : Nat) : Int))), (.int .i64 0)])) (fun _ hS => ⟨by rw [(dc_v1 (len74 hb1) (by have := of_decide_eq_false hb2; have := of_decide_eq_false hb3; omega) (b01 hb4) (not_f hb5)).1, (dc_v1 (len74 hb1) (by have := of_decide_eq_false hb2; have := of_decide_eq_false hb3; omega) (b01 hb4) (not_f hb5)).2], hS.bel⟩)
        ·
          rw [hb4]
          refine ok_skip ?_
          refine mt_then ?_
          refine sS Tryd.f24 8 [2, 3, 4, 8, 9, 10] [] (fun ρ => [(U (hsV B 42)), (.tuple #[(U (pubV (hsV B 42))), (.int .i64 (pubE (hsV B 42)))]), (.tuple #[(U (pubV (hsV B 42))), (.int .i64 (pubE (hsV B 42)))]), (U (pubV (hsV B 42))), (.int .i64 (pubE (hsV B 42))), (pt (nb ρ 5)), undef, (.int .i64 (pubE (hsV B 42)))]) (fun ρ => [(5, { news := [(nb ρ 5, (.cells (cU 0) 25 (0, 0)))] }), (6, { puts := [(43, nb ρ 5, (.cells (cU (pubV (hsV B 42))) 25 (0, 0)))] })]) (cR [[2]] <| cC (fun _ w => public_any (hsV B 42) hsV_lt w) <| cR [[], [], [], [], [43], []] <| cN) (fun _ => ?_)
          refine ok_seq ?_
          refine sS Tryd.f24 2 [2, 3, 4, 8, 9, 77] [] (fun _ => [(.int .i64 (pubE (hsV B 42))), (.bool ((pubE (hsV B 42)) != 0))]) (fun _ => []) (cR [[], []] <| cN) (fun _ => ?_)
          refine oC ((pubE (hsV B 42)) != 0) (fun hb6 => ?_) (fun hb6 => ?_)
          ·
            rw [hb6]
            refine sS Tryd.f24 3 [2, 3, 4, 8, 9] [] (fun _ => [(.agg (kC 0 0 0 0 0 0)), undef, (.int .i64 60)]) (fun _ => [(1, { puts := [(0, nb ρ1 0, (.cells (kC 0 0 0 0 0 0) 30 (0, 0)))] })]) (cR [[], [0], []] <| cN) (fun _ => ?_)
            refine ok_ret ?_
            refine mt_then_r ?_
            exact mR (v := (.tuple #[(.agg (kC 0 0 0 0 0 0)), (.int .i64 60)])) (fun _ hS => ⟨by rw [(dc_s0 (len74 hb1) (by have := of_decide_eq_false hb2; have := of_decide_eq_false hb3; omega) (b00 hb4) (bne0 hb6)).2.1, (dc_s0 (len74 hb1) (by have := of_decide_eq_false hb2; have := of_decide_eq_false hb3; omega) (b00 hb4) (bne0 hb6)).2.2]; rfl, hS.bel⟩)
          ·
            rw [hb6]
            refine ok_skip ?_
            refine mt_then ?_
            refine sD Tryd.f24 [0, 0, 1, 5, 15, 31] 6 [2, 3, 4] [1, 1, 0, 0] (fun _ => [(U (hsV B 42)), (U (pubV (hsV B 42))), (pt (nb ρ8 5)), undef, (.pointer (some ⟨nb ρ8 5, 4, none⟩)), undef]) (fun _ => [(3, { puts := [(1, nb ρ8 5, (.cells (kC (hsV B 42) 0 (hsV B 10) ((gB B 1 : Nat) : Int) ((rdV B 2 4 : Nat) : Int) ((rdV B 6 4 : Nat) : Int)) 30 (0, 0)))] }), (5, { puts := [(1, nb ρ8 5, (.cells (kC (hsV B 42) (pubV (hsV B 42)) (hsV B 10) ((gB B 1 : Nat) : Int) ((rdV B 2 4 : Nat) : Int) ((rdV B 6 4 : Nat) : Int)) 30 (0, 0)))] })]) (cR [[2], [3], [], [1], [], [1]] <| cN) (fun _ => ?_)
            refine sS Tryd.f24 3 [2, 3] [1, 0] (fun _ => [(.agg (kC (hsV B 42) (pubV (hsV B 42)) (hsV B 10) ((gB B 1 : Nat) : Int) ((rdV B 2 4 : Nat) : Int) ((rdV B 6 4 : Nat) : Int))), undef, (.int .i64 0)]) (fun _ => [(1, { puts := [(0, nb ρ1 0, (.cells (kC (hsV B 42) (pubV (hsV B 42)) (hsV B 10) ((gB B 1 : Nat) : Int) ((rdV B 2 4 : Nat) : Int) ((rdV B 6 4 : Nat) : Int)) 30 (0, 0)))] })]) (cR [[1], [0], []] <| cN) (fun _ => ?_)
            refine ok_ret ?_
            exact mR (v := (.tuple #[(.agg (kC (hsV B 42) (pubV (hsV B 42)) (hsV B 10) ((gB B 1 : Nat) : Int) ((rdV B 2 4 : Nat) : Int) ((rdV B 6 4 : Nat) : Int))), (.int .i64 0)])) (fun _ hS => ⟨by rw [(dc_s1 (len74 hb1) (by have := of_decide_eq_false hb2; have := of_decide_eq_false hb3; omega) (b00 hb4) (bne0' hb6)).1, (dc_s1 (len74 hb1) (by have := of_decide_eq_false hb2; have := of_decide_eq_false hb3; omega) (b00 hb4) (bne0' hb6)).2], hS.bel⟩)
end Go.Proofs.YtjdhjkceahaegaaDoor

/-! Trees of keys: roots: the walks. -/
namespace Go.Proofs.YtjdhjkceahaegaaDoor
open Go Go.RowKit

theorem masterw_any (a : Option Addr) (c : Nat) (B : List UInt8) (t : Nat) (y : Nat) (x : Nat) (hl : B.length + 200 ≤ 140737488351232) (ht : t < M) (_hy : y < M) (hx : x < M) (et : tagN tgM B = t) (ey : tagN tgI B = y) (ex : addmN t 0 qP = x) (w0 : World) (hf0 : Bs w0 a c B) (hf1 : Kb w0 1 (rowK .u32 64 kN)) (hf2 : Kb w0 0 #[(.int .u32 1779033703), (.int .u32 3144134277), (.int .u32 1013904242), (.int .u32 2773480762), (.int .u32 1359893119), (.int .u32 2600822924), (.int .u32 528734635), (.int .u32 1541459225)]) : Calls Tryd.prog 22 #[(.slice a (B).length c)] w0 (fun ε w' => ε = .returned (.tuple #[(.agg (kC ((msK B).s) ((msK B).p) ((msK B).c) ((msK B).d) (((msK B).i : Nat) : Int) (((msK B).n : Nat) : Int))), (.int .i64 (msE B))]) ∧ Below w0.heap.size w0 w') := by
  refine Calls.of_ok (n := 39) (F := (fun w => Bs w a c B ∧ Kb w 1 (rowK .u32 64 kN) ∧ Kb w 0 #[(.int .u32 1779033703), (.int .u32 3144134277), (.int .u32 1013904242), (.int .u32 2773480762), (.int .u32 1359893119), (.int .u32 2600822924), (.int .u32 528734635), (.int .u32 1541459225)] ∧ True)) Tryd.func22 rfl rfl rfl (by simp) (hf0.pers0.and (hf1.pers0.and (hf2.pers0.and persT))) ?_
  refine sS Tryd.f22 2 [0, 2, 3] [] (fun ρ => [(pt (nb ρ 0)), (.int .i64 0)]) (fun ρ => [(0, { news := [(nb ρ 0, (.cells (kC 0 0 0 0 0 0) 30 (0, 0)))] })]) (cR [[], []] <| cN) (fun ρ1 => ?_)
  refine ok_seq ?_
  rcases Bool.eq_false_or_eq_true (decide ((((B).length : Nat) : Int) < 16)) with hb1 | hb1
  ·
    refine sS Tryd.f22 8 [0, 2, 3, 15] [] (fun _ => [(.slice a (B).length c), (.int .i64 (((B).length : Nat) : Int)), (.bool true), (.bool true), undef, undef, undef, (.bool true)]) (fun _ => []) (cR [[], []] <| cA (fun _ => (.bool true)) (fun _ => congrArg Value.bool hb1) <| cR [[], [], [], [], []] <| cN) (fun _ => ?_)
    refine oY ?_
    refine sS Tryd.f22 3 [0, 2, 3] [] (fun _ => [(.agg (kC 0 0 0 0 0 0)), undef, (.int .i64 5)]) (fun _ => [(1, { puts := [(0, nb ρ1 0, (.cells (kC 0 0 0 0 0 0) 30 (0, 0)))] })]) (cR [[], [0], []] <| cN) (fun _ => ?_)
    refine ok_ret ?_
    refine mt_then_r ?_
    exact mR (v := (.tuple #[(.agg (kC 0 0 0 0 0 0)), (.int .i64 5)])) (fun _ hS => ⟨by rw [(ms_5 (Or.inl (by have := of_decide_eq_true hb1; omega))).1, (ms_5 (Or.inl (by have := of_decide_eq_true hb1; omega))).2]; rfl, hS.bel⟩)
  ·
    refine sS Tryd.f22 8 [0, 2, 3, 15] [] (fun _ => [(.slice a (B).length c), (.int .i64 (((B).length : Nat) : Int)), (.bool false), (.bool false), (.slice a (B).length c), (.int .i64 (((B).length : Nat) : Int)), (.bool (decide (64 < (((B).length : Nat) : Int)))), (.bool (decide (64 < (((B).length : Nat) : Int))))]) (fun _ => []) (cR [[], []] <| cA (fun _ => (.bool false)) (fun _ => congrArg Value.bool hb1) <| cR [[], [], [], [], []] <| cN) (fun _ => ?_)
    refine oC (decide (64 < (((B).length : Nat) : Int))) (fun hb2 => ?_) (fun hb2 => ?_)
    ·
      rw [hb2]
      refine sS Tryd.f22 3 [0, 2, 3] [] (fun _ => [(.agg (kC 0 0 0 0 0 0)), undef, (.int .i64 5)]) (fun _ => [(1, { puts := [(0, nb ρ1 0, (.cells (kC 0 0 0 0 0 0) 30 (0, 0)))] })]) (cR [[], [0], []] <| cN) (fun _ => ?_)
      refine ok_ret ?_
      refine mt_then_r ?_
      exact mR (v := (.tuple #[(.agg (kC 0 0 0 0 0 0)), (.int .i64 5)])) (fun _ hS => ⟨by rw [(ms_5 (Or.inr (by have := of_decide_eq_true hb2; omega))).1, (ms_5 (Or.inr (by have := of_decide_eq_true hb2; omega))).2]; rfl, hS.bel⟩)
    ·
      rw [hb2]
      refine ok_skip ?_
      refine mt_then ?_
      refine sS Tryd.f22 5 [0, 2, 3, 4] [] (fun ρ => [(.slice a (B).length c), (.agg (hB t)), (U x), (pt (nb ρ 3)), undef]) (fun ρ => [(3, { news := [(nb ρ 3, (.cells (cU 0) 25 (0, 0)))] }), (4, { puts := [(25, nb ρ 3, (.cells (cU x) 25 (0, 0)))] })]) (cR [[]] <| cX (o_callP _ 40 (fun _ => #[(.string ⟨#[108, 105, 103, 104, 116, 99, 108, 105, 101, 110, 116, 47, 109, 97, 115, 116, 101, 114]⟩), (.slice a (B).length c)]) (fun _ => (.agg (hB t))) (fun _ _ => (by kernel_rfl)) (fun _ => (by kernel_rfl)) (fun _ _ => (by kernel_rfl)) (fun _ _ => trivial) (fun _ _ w hG => (by as_aux_lemma => (have hcall := tagged_any tgM a c B (by decide) hl w hG.facts0.now.1 hG.facts0.now.2.1 hG.facts0.now.2.2.1; rw [et] at hcall; exact hcall)))) <| cX (o_callP _ 39 (fun _ => #[(.agg (hB t))]) (fun _ => (U x)) (fun _ _ => (by kernel_rfl)) (fun _ => (by kernel_rfl)) (fun _ _ => (by kernel_rfl)) (fun _ _ => trivial) (fun _ _ w _ => (by as_aux_lemma => (have hcall := (fun w => gscalar_any t w ht) w ; rw [ex] at hcall; exact hcall)))) <| cR [[], [25]] <| cN) (fun ρ6 => ?_)
      refine ok_seq ?_
      refine sS Tryd.f22 3 [0, 2, 3, 4, 22] [] (fun _ => [(U x), (U 0), (.bool (decide (x = 0)))]) (fun _ => []) (cR [[1], []] <| cB (a := fun ρ => (U x)) (b := fun ρ => (U 0)) (v := fun ρ => (.bool (decide (x = 0)))) .eql 25 (fun _ _ => eqlU x 0 hx (by decide +kernel) _) <| cN) (fun _ => ?_)
      refine oC (decide (x = 0)) (fun hb3 => ?_) (fun hb3 => ?_)
      ·
        rw [hb3]
        refine sS Tryd.f22 3 [0, 2, 3, 4] [] (fun _ => [(.agg (kC 0 0 0 0 0 0)), undef, (.int .i64 60)]) (fun _ => [(1, { puts := [(0, nb ρ1 0, (.cells (kC 0 0 0 0 0 0) 30 (0, 0)))] })]) (cR [[], [0], []] <| cN) (fun _ => ?_)
        refine ok_ret ?_
        refine mt_then_r ?_
        exact mR (v := (.tuple #[(.agg (kC 0 0 0 0 0 0)), (.int .i64 60)])) (fun _ hS => ⟨by rw [(msn_0 et ex (by have := of_decide_eq_false hb1; have := of_decide_eq_false hb2; omega) (of_decide_eq_true hb3)).1, (msn_0 et ex (by have := of_decide_eq_false hb1; have := of_decide_eq_false hb2; omega) (of_decide_eq_true hb3)).2]; rfl, hS.bel⟩)
      ·
        rw [hb3]
        refine ok_skip ?_
        refine mt_then ?_
        refine sS Tryd.f22 8 [0, 2, 3, 4, 5, 6] [] (fun ρ => [(U x), (.tuple #[(U (pubV x)), (.int .i64 (pubE x))]), (.tuple #[(U (pubV x)), (.int .i64 (pubE x))]), (U (pubV x)), (.int .i64 (pubE x)), (pt (nb ρ 5)), undef, (.int .i64 (pubE x))]) (fun ρ => [(5, { news := [(nb ρ 5, (.cells (cU 0) 25 (0, 0)))] }), (6, { puts := [(42, nb ρ 5, (.cells (cU (pubV x)) 25 (0, 0)))] })]) (cR [[1]] <| cC (fun _ w => public_any x hx w) <| cR [[], [], [], [], [42], []] <| cN) (fun ρ9 => ?_)
        refine dRs [(0, (.slice a (B).length c)), (2, (pt (nb ρ1 0))), (3, (.int .i64 0)), (4, (pt (nb ρ6 3))), (5, (pt (nb ρ9 5))), (6, (.int .i64 (pubE x)))] [(nb ρ1 0, (.cells (kC 0 0 0 0 0 0) 30 (0, 0))), (nb ρ6 3, (.cells (cU x) 25 (0, 0))), (nb ρ9 5, (.cells (cU (pubV x)) 25 (0, 0)))] ?_
        refine ok_seq ?_
        refine sS Tryd.f22 2 [0, 2, 3, 4, 5, 6, 30] [] (fun _ => [(.int .i64 (pubE x)), (.bool ((pubE x) != 0))]) (fun _ => []) (cR [[], []] <| cN) (fun _ => ?_)
        refine oC ((pubE x) != 0) (fun hb4 => ?_) (fun hb4 => ?_)
        ·
          rw [hb4]
          refine sS Tryd.f22 4 [0, 2, 3, 4, 5] [] (fun _ => [(.agg (kC 0 0 0 0 0 0)), (.int .i64 (pubE x)), undef, (.int .i64 (pubE x))]) (fun _ => [(2, { puts := [(0, nb ρ1 0, (.cells (kC 0 0 0 0 0 0) 30 (0, 0)))] })]) (cR [[], [], [0], []] <| cN) (fun _ => ?_)
          refine ok_ret ?_
          refine mt_then_r ?_
          exact mR (v := (.tuple #[(.agg (kC 0 0 0 0 0 0)), (.int .i64 (pubE x))])) (fun _ hS => ⟨by rw [(msn_e et ex (by have := of_decide_eq_false hb1; have := of_decide_eq_false hb2; omega) (bne0 hb4)).1, (msn_e et ex (by have := of_decide_eq_false hb1; have := of_decide_eq_false hb2; omega) (bne0 hb4)).2]; rfl, hS.bel⟩)
        ·
          rw [hb4]
          refine ok_skip ?_
          refine mt_then ?_
          refine sS Tryd.f22 4 [2, 3, 4, 5, 7] [] (fun ρ => [(.slice a (B).length c), (.agg (hB y)), (pt (nb ρ 2)), undef]) (fun ρ => [(2, { news := [(nb ρ 2, (.cells (hB 0) 27 (0, 0)))] }), (3, { puts := [(19, nb ρ 2, (.cells (hB y) 27 (0, 0)))] })]) (cR [[]] <| cX (o_callP _ 40 (fun _ => #[(.string ⟨#[108, 105, 103, 104, 116, 99, 108, 105, 101, 110, 116, 47, 99, 104, 97, 105, 110]⟩), (.slice a (B).length c)]) (fun _ => (.agg (hB y))) (fun _ _ => (by kernel_rfl)) (fun _ => (by kernel_rfl)) (fun _ _ => (by kernel_rfl)) (fun _ _ => trivial) (fun _ _ w hG => (by as_aux_lemma => (have hcall := tagged_any tgI a c B (by decide) hl w hG.facts0.now.1 hG.facts0.now.2.1 hG.facts0.now.2.2.1; rw [ey] at hcall; exact hcall)))) <| cR [[], [19]] <| cN) (fun _ => ?_)
          refine sS Tryd.f22 6 [2, 3] [1, 0, 0, 0] (fun _ => [(U x), (U (pubV x)), (.agg (hB y)), (.agg (kC x (pubV x) y 0 0 0)), undef, (.int .i64 0)]) (fun _ => [(4, { puts := [(0, nb ρ1 0, (.cells (kC x (pubV x) y 0 0 0) 30 (0, 0)))] })]) (cR [[1], [2], [3], [], [0], []] <| cN) (fun _ => ?_)
          refine ok_ret ?_
          exact mR (v := (.tuple #[(.agg (kC x (pubV x) y 0 0 0)), (.int .i64 0)])) (fun _ hS => ⟨by rw [(msn_k et ey ex (by have := of_decide_eq_false hb1; have := of_decide_eq_false hb2; omega) (bne0' hb4)).1, (msn_k et ey ex (by have := of_decide_eq_false hb1; have := of_decide_eq_false hb2; omega) (bne0' hb4)).2]; rfl, hS.bel⟩)
theorem master_any (a : Option Addr) (c : Nat) (B : List UInt8) (hl : B.length + 200 ≤ 140737488351232) (w0 : World) (hf0 : Bs w0 a c B) (hf1 : Kb w0 1 (rowK .u32 64 kN)) (hf2 : Kb w0 0 #[(.int .u32 1779033703), (.int .u32 3144134277), (.int .u32 1013904242), (.int .u32 2773480762), (.int .u32 1359893119), (.int .u32 2600822924), (.int .u32 528734635), (.int .u32 1541459225)]) : Calls Tryd.prog 22 #[(.slice a (B).length c)] w0 (fun ε w' => ε = .returned (.tuple #[(.agg (kC ((msK B).s) ((msK B).p) ((msK B).c) ((msK B).d) (((msK B).i : Nat) : Int) (((msK B).n : Nat) : Int))), (.int .i64 (msE B))]) ∧ Below w0.heap.size w0 w') := masterw_any a c B _ _ _ hl (tagN_lt _ _) (tagN_lt _ _) (addmN_lt _ _ qP_lt) rfl rfl rfl w0 hf0 hf1 hf2

theorem rmasterw_any (a : Option Addr) (c : Nat) (B : List UInt8) (t : Nat) (y : Nat) (x : Nat) (hl : B.length + 200 ≤ 140737488351232) (ht : t < M) (_hy : y < M) (hx : x < M) (et : tagN tgM B = t) (ey : tagN tgI B = y) (ex : addmN t 0 qP = x) (w0 : World) (hf0 : Bs w0 a c B) : Calls Tryd.prog 23 #[(.slice a (B).length c)] w0 (fun ε w' => ε = .returned (.tuple #[(.agg (kC ((msK B).s) ((msK B).p) ((msK B).c) ((msK B).d) (((msK B).i : Nat) : Int) (((msK B).n : Nat) : Int))), (.int .i64 (msE B))]) ∧ Below w0.heap.size w0 w') := by
  refine Calls.of_ok (n := 33) (F := (fun w => Bs w a c B ∧ True)) Tryd.func23 rfl rfl rfl (by simp) (hf0.pers0.and persT) ?_
  refine sS Tryd.f23 2 [0, 2, 3] [] (fun ρ => [(pt (nb ρ 0)), (.int .i64 0)]) (fun ρ => [(0, { news := [(nb ρ 0, (.cells (kC 0 0 0 0 0 0) 30 (0, 0)))] })]) (cR [[], []] <| cN) (fun ρ1 => ?_)
  refine ok_seq ?_
  rcases Bool.eq_false_or_eq_true (decide ((((B).length : Nat) : Int) < 16)) with hb1 | hb1
  ·
    refine sS Tryd.f23 8 [0, 2, 3, 14] [] (fun _ => [(.slice a (B).length c), (.int .i64 (((B).length : Nat) : Int)), (.bool true), (.bool true), undef, undef, undef, (.bool true)]) (fun _ => []) (cR [[], []] <| cA (fun _ => (.bool true)) (fun _ => congrArg Value.bool hb1) <| cR [[], [], [], [], []] <| cN) (fun _ => ?_)
    refine oY ?_
    refine sS Tryd.f23 3 [0, 2, 3] [] (fun _ => [(.agg (kC 0 0 0 0 0 0)), undef, (.int .i64 5)]) (fun _ => [(1, { puts := [(0, nb ρ1 0, (.cells (kC 0 0 0 0 0 0) 30 (0, 0)))] })]) (cR [[], [0], []] <| cN) (fun _ => ?_)
    refine ok_ret ?_
    refine mt_then_r ?_
    exact mR (v := (.tuple #[(.agg (kC 0 0 0 0 0 0)), (.int .i64 5)])) (fun _ hS => ⟨by rw [(ms_5 (Or.inl (by have := of_decide_eq_true hb1; omega))).1, (ms_5 (Or.inl (by have := of_decide_eq_true hb1; omega))).2]; rfl, hS.bel⟩)
  ·
    refine sS Tryd.f23 8 [0, 2, 3, 14] [] (fun _ => [(.slice a (B).length c), (.int .i64 (((B).length : Nat) : Int)), (.bool false), (.bool false), (.slice a (B).length c), (.int .i64 (((B).length : Nat) : Int)), (.bool (decide (64 < (((B).length : Nat) : Int)))), (.bool (decide (64 < (((B).length : Nat) : Int))))]) (fun _ => []) (cR [[], []] <| cA (fun _ => (.bool false)) (fun _ => congrArg Value.bool hb1) <| cR [[], [], [], [], []] <| cN) (fun _ => ?_)
    refine oC (decide (64 < (((B).length : Nat) : Int))) (fun hb2 => ?_) (fun hb2 => ?_)
    ·
      rw [hb2]
      refine sS Tryd.f23 3 [0, 2, 3] [] (fun _ => [(.agg (kC 0 0 0 0 0 0)), undef, (.int .i64 5)]) (fun _ => [(1, { puts := [(0, nb ρ1 0, (.cells (kC 0 0 0 0 0 0) 30 (0, 0)))] })]) (cR [[], [0], []] <| cN) (fun _ => ?_)
      refine ok_ret ?_
      refine mt_then_r ?_
      exact mR (v := (.tuple #[(.agg (kC 0 0 0 0 0 0)), (.int .i64 5)])) (fun _ hS => ⟨by rw [(ms_5 (Or.inr (by have := of_decide_eq_true hb2; omega))).1, (ms_5 (Or.inr (by have := of_decide_eq_true hb2; omega))).2]; rfl, hS.bel⟩)
    ·
      rw [hb2]
      refine ok_skip ?_
      refine mt_then ?_
      refine sS Tryd.f23 5 [0, 2, 3, 4] [] (fun ρ => [(.slice a (B).length c), (.agg (hB t)), (U x), (pt (nb ρ 3)), undef]) (fun ρ => [(3, { news := [(nb ρ 3, (.cells (cU 0) 25 (0, 0)))] }), (4, { puts := [(25, nb ρ 3, (.cells (cU x) 25 (0, 0)))] })]) (cR [[]] <| cX (o_callP _ 42 (fun _ => #[(.string ⟨#[108, 105, 103, 104, 116, 99, 108, 105, 101, 110, 116, 47, 109, 97, 115, 116, 101, 114]⟩), (.slice a (B).length c)]) (fun _ => (.agg (hB t))) (fun _ _ => (by kernel_rfl)) (fun _ => (by kernel_rfl)) (fun _ _ => (by kernel_rfl)) (fun _ _ => trivial) (fun _ _ w hG => (by as_aux_lemma => (have hcall := rtagged_any tgM a c B (by decide) hl w hG.facts0.now.1; rw [et] at hcall; exact hcall)))) <| cX (o_callP _ 41 (fun _ => #[(.agg (hB t))]) (fun _ => (U x)) (fun _ _ => (by kernel_rfl)) (fun _ => (by kernel_rfl)) (fun _ _ => (by kernel_rfl)) (fun _ _ => trivial) (fun _ _ w _ => (by as_aux_lemma => (have hcall := (fun w => rgscalar_any t w ht) w ; rw [ex] at hcall; exact hcall)))) <| cR [[], [25]] <| cN) (fun ρ6 => ?_)
      refine sS Tryd.f23 8 [0, 2, 3, 4, 5, 6] [] (fun ρ => [(U x), (.tuple #[(U (pubV x)), (.int .i64 (pubE x))]), (.tuple #[(U (pubV x)), (.int .i64 (pubE x))]), (U (pubV x)), (.int .i64 (pubE x)), (pt (nb ρ 5)), undef, (.int .i64 (pubE x))]) (fun ρ => [(5, { news := [(nb ρ 5, (.cells (cU 0) 25 (0, 0)))] }), (6, { puts := [(42, nb ρ 5, (.cells (cU (pubV x)) 25 (0, 0)))] })]) (cR [[1]] <| cC (fun _ w => rpublic_any x hx w) <| cR [[], [], [], [], [42], []] <| cN) (fun ρ7 => ?_)
      refine ok_seq ?_
      refine sS Tryd.f23 2 [0, 2, 3, 4, 5, 6, 25] [] (fun _ => [(.int .i64 (pubE x)), (.bool ((pubE x) != 0))]) (fun _ => []) (cR [[], []] <| cN) (fun _ => ?_)
      refine dRs [(0, (.slice a (B).length c)), (2, (pt (nb ρ1 0))), (3, (.int .i64 0)), (4, (pt (nb ρ6 3))), (5, (pt (nb ρ7 5))), (6, (.int .i64 (pubE x))), (25, (.bool ((pubE x) != 0)))] [(nb ρ1 0, (.cells (kC 0 0 0 0 0 0) 30 (0, 0))), (nb ρ6 3, (.cells (cU x) 25 (0, 0))), (nb ρ7 5, (.cells (cU (pubV x)) 25 (0, 0)))] ?_
      refine oC ((pubE x) != 0) (fun hb3 => ?_) (fun hb3 => ?_)
      ·
        rw [hb3]
        refine sS Tryd.f23 4 [0, 2, 3, 4, 5] [] (fun _ => [(.agg (kC 0 0 0 0 0 0)), (.int .i64 (pubE x)), undef, (.int .i64 (pubE x))]) (fun _ => [(2, { puts := [(0, nb ρ1 0, (.cells (kC 0 0 0 0 0 0) 30 (0, 0)))] })]) (cR [[], [], [0], []] <| cN) (fun _ => ?_)
        refine ok_ret ?_
        refine mt_then_r ?_
        exact mR (v := (.tuple #[(.agg (kC 0 0 0 0 0 0)), (.int .i64 (pubE x))])) (fun _ hS => ⟨by rw [(msn_e et ex (by have := of_decide_eq_false hb1; have := of_decide_eq_false hb2; omega) (bne0 hb3)).1, (msn_e et ex (by have := of_decide_eq_false hb1; have := of_decide_eq_false hb2; omega) (bne0 hb3)).2]; rfl, hS.bel⟩)
      ·
        rw [hb3]
        refine ok_skip ?_
        refine mt_then ?_
        refine sD Tryd.f23 [0, 0, 0, 4, 15, 31, 63] 7 [2, 3] [1, 0, 0] (fun _ => [(U x), (U (pubV x)), (.slice a (B).length c), (.agg (hB y)), (.agg (kC x (pubV x) y 0 0 0)), undef, (.int .i64 0)]) (fun _ => [(5, { puts := [(0, nb ρ1 0, (.cells (kC x (pubV x) y 0 0 0) 30 (0, 0)))] })]) (cR [[1], [2], []] <| cX (o_callP _ 42 (fun _ => #[(.string ⟨#[108, 105, 103, 104, 116, 99, 108, 105, 101, 110, 116, 47, 99, 104, 97, 105, 110]⟩), (.slice a (B).length c)]) (fun _ => (.agg (hB y))) (fun _ _ => (by kernel_rfl)) (fun _ => (by kernel_rfl)) (fun _ _ => (by kernel_rfl)) (fun _ _ => trivial) (fun _ _ w hG => (by as_aux_lemma => (have hcall := rtagged_any tgI a c B (by decide) hl w hG.facts0.now.1; rw [ey] at hcall; exact hcall)))) <| cR [[], [0], []] <| cN) (fun _ => ?_)
        refine ok_ret ?_
        exact mR (v := (.tuple #[(.agg (kC x (pubV x) y 0 0 0)), (.int .i64 0)])) (fun _ hS => ⟨by rw [(msn_k et ey ex (by have := of_decide_eq_false hb1; have := of_decide_eq_false hb2; omega) (bne0' hb3)).1, (msn_k et ey ex (by have := of_decide_eq_false hb1; have := of_decide_eq_false hb2; omega) (bne0' hb3)).2]; rfl, hS.bel⟩)
theorem rmaster_any (a : Option Addr) (c : Nat) (B : List UInt8) (hl : B.length + 200 ≤ 140737488351232) (w0 : World) (hf0 : Bs w0 a c B) : Calls Tryd.prog 23 #[(.slice a (B).length c)] w0 (fun ε w' => ε = .returned (.tuple #[(.agg (kC ((msK B).s) ((msK B).p) ((msK B).c) ((msK B).d) (((msK B).i : Nat) : Int) (((msK B).n : Nat) : Int))), (.int .i64 (msE B))]) ∧ Below w0.heap.size w0 w') := rmasterw_any a c B _ _ _ hl (tagN_lt _ _) (tagN_lt _ _) (addmN_lt _ _ qP_lt) rfl rfl rfl w0 hf0
end Go.Proofs.YtjdhjkceahaegaaDoor
