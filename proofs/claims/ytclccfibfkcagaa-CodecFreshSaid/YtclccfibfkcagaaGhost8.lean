/-
  Rows of bytes: made, appended to, copied into, read, sliced, turned into strings.
-/
import Derived.Test.YtclccfibfkcagaaGhost7
namespace Go.Proofs.Ytclccfibfkcagaa
open Go Go.RowKit

section
variable {P : Program} {ops : Array Oper} {D : List Nat} {l : List (Nat × Value)} {w0 : World} {h : List (Nat × Obj)} {F0 : World → Prop}
variable {vals : (Nat → Orc) → Nat → Value} {effs : (Nat → Orc) → Nat → Eff} {fact : (Nat → Orc) → Nat → World → Prop}
/-- w' is w and one block more. -/
structure Grew (w w' : World) (o : Obj) : Prop where
  os : w'.os = w.os
  tape : w'.tape = w.tape
  output : w'.output = w.output
  heap : w'.heap = w.heap.push o
/-- w' is w but for block g. -/
structure Wrote (w w' : World) (g : Nat) (o : Obj) : Prop where
  os : w'.os = w.os
  tape : w'.tape = w.tape
  output : w'.output = w.output
  size : w'.heap.size = w.heap.size
  other : ∀ b, b ≠ g → w'.heap[b]? = w.heap[b]?
  at_ : w'.heap[g]? = some o
def newChk (ops : Array Oper) (V : Nat → Value) (v : Value) (E' : Eff) (i : Nat) : Option (Value × Eff) :=
  if (ops[i]?).isSome && wantV V (opAt ops i) then some (v, E') else none
/-- An operation that makes one block. -/
theorem o_new1 (i : Nat) (s : (Nat → Orc) → Sem Next) (v : (Nat → Orc) → List Nat → Value) (ob : (Nat → Orc) → List Nat → Obj)
    (hc : ∀ ρ z, newChk ops (vals ρ) (vals (upd ρ i { n := z }) i) (effs (upd ρ i { n := z }) i) i = some (v ρ z, { news := [(z.headD 0, ob ρ z)] }))
    (hx : ∀ ρ, execOp (evalAt ops D l (vals ρ) i) (opAt ops i) = s ρ) (ht : ∀ ρ w, fact ρ i w)
    (hr : ∀ ρ T w, Given ops D w0 h F0 effs fact i ρ T w → ∃ k w', (s ρ).run P w = .ok (.value (v ρ [w.heap.size, k])) w' ∧ Grew w w' (ob ρ [w.heap.size, k])) : Obl P ops D l w0 h F0 vals effs fact i := by
  have key : ∀ ρ z, ((ops[i]?).isSome = true ∧ wantV (vals ρ) (opAt ops i) = true) ∧ v ρ z = vals (upd ρ i { n := z }) i ∧ effs (upd ρ i { n := z }) i = { news := [(z.headD 0, ob ρ z)] } := by
    intro ρ z
    have h1 := hc ρ z
    unfold newChk at h1
    split at h1
    · rename_i hb
      simp only [Bool.and_eq_true] at hb
      simp only [Option.some.injEq, Prod.mk.injEq] at h1
      exact ⟨hb, h1.1.symm, h1.2⟩
    · exact absurd h1 (by simp)
  intro o ho ρ T w hG
  have hoe := opAt_some (key ρ []).1.1
  rw [ho] at hoe
  obtain rfl : o = opAt ops i := by simpa using hoe
  rw [if_pos (key ρ []).1.2]
  obtain ⟨k, w', hrun, hgr⟩ := hr ρ T w hG
  unfold opv
  rw [hx ρ, hrun]
  have he := (key ρ [w.heap.size, k]).2.2
  refine ⟨{ n := [w.heap.size, k] }, (key ρ _).2.1, ?_, ?_, ?_, ?_, persTrue (ht _)⟩
  · refine ⟨hgr.os, hgr.tape, hgr.output, by rw [hgr.heap]; simp, fun b hb _ => ?_⟩
    rw [hgr.heap, Array.getElem?_push, if_neg (by omega)]
  · rw [he]; intro n q hm; simp at hm
  · rw [he]
    intro j b q hj
    have : j = 0 := by
      have := (List.getElem?_eq_some_iff.1 hj).1
      simpa using this
    subst this
    simp only [List.headD_cons, List.getElem?_cons_zero, Option.some.injEq, Prod.mk.injEq] at hj
    obtain ⟨rfl, rfl⟩ := hj
    refine ⟨Nat.le_refl _, ?_⟩
    rw [hgr.heap]
    simp
  · rw [he]; simp
/-- An operation that writes one block of the call's own. -/
theorem o_put1 (i n : Nat) (s : (Nat → Orc) → Sem Next) (g : (Nat → Orc) → Nat) (ob ob' : (Nat → Orc) → Obj) (v : (Nat → Orc) → Value)
    (hc : ∀ ρ, newChk ops (vals ρ) (vals (upd ρ i {}) i) (effs (upd ρ i {}) i) i = some (v ρ, { puts := [(n, ob' ρ)] }))
    (hn : ∀ ρ, namesOk ops D h (effs ρ) i [n] = true) (hk : ∀ ρ, known ops D h (effs ρ) i [n] = [(g ρ, ob ρ)])
    (hx : ∀ ρ, execOp (evalAt ops D l (vals ρ) i) (opAt ops i) = s ρ) (ht : ∀ ρ w, fact ρ i w)
    (hr : ∀ ρ T w, Given ops D w0 h F0 effs fact i ρ T w → w.heap[g ρ]? = some (ob ρ) → ∃ w', (s ρ).run P w = .ok (.value (v ρ)) w' ∧ Wrote w w' (g ρ) (ob' ρ)) : Obl P ops D l w0 h F0 vals effs fact i := by
  have key : ∀ ρ, ((ops[i]?).isSome = true ∧ wantV (vals ρ) (opAt ops i) = true) ∧ v ρ = vals (upd ρ i {}) i ∧ effs (upd ρ i {}) i = { puts := [(n, ob' ρ)] } := by
    intro ρ
    have h1 := hc ρ
    unfold newChk at h1
    split at h1
    · rename_i hb
      simp only [Bool.and_eq_true] at hb
      simp only [Option.some.injEq, Prod.mk.injEq] at h1
      exact ⟨hb, h1.1.symm, h1.2⟩
    · exact absurd h1 (by simp)
  intro o ho ρ T w hG
  have hoe := opAt_some (key ρ).1.1
  rw [ho] at hoe
  obtain rfl : o = opAt ops i := by simpa using hoe
  rw [if_pos (key ρ).1.2]
  obtain ⟨w', hrun, hwr⟩ := hr ρ T w hG (hG.known n (hn ρ) (hk ρ))
  unfold opv
  rw [hx ρ, hrun]
  have he := (key ρ).2.2
  have hn0 := hn ρ
  unfold namesOk at hn0
  rw [Bool.and_eq_true, List.all_eq_true] at hn0
  have hn1 := hn0.1 n (by simp)
  rw [Bool.and_eq_true] at hn1
  obtain ⟨⟨b, q⟩, hb⟩ := Option.isSome_iff_exists.1 hn1.1
  have hbg : b = g ρ := by
    have := hk ρ
    unfold known at this
    simp only [List.map_cons, List.map_nil, hb, List.cons.injEq, Prod.mk.injEq, and_true] at this
    exact this.1
  refine ⟨{}, (key ρ).2.1, ?_, ?_, ?_, ?_, persTrue (ht _)⟩
  · refine ⟨hwr.os, hwr.tape, hwr.output, by rw [hwr.size]; exact Nat.le_refl _, fun k hk' hX => hwr.other k ?_⟩
    rintro rfl
    exact hX ⟨n, _, q, by rw [he]; exact List.mem_cons_self, by rw [hb, hbg]⟩
  · rw [he]
    intro n' o' hm
    simp only [List.mem_singleton, Prod.mk.injEq] at hm
    obtain ⟨rfl, rfl⟩ := hm
    refine ⟨hn1.2, b, q, hb, ?_⟩
    rw [hbg, hwr.at_]
    simp
  · rw [he]; intro k b' q' hk'; simp at hk'
  · rw [he]; simp
end

/-! ### runs over bytes -/
section
variable {P : Program} {t e : TypeId}
/-- The element's type is one byte. -/
def u8like (P : Program) (e : TypeId) : Prop := ∃ i, P.info? e = some i ∧ i.size = 1 ∧ i.bytes = 1 ∧ i.zero = some (.int .u8 0)
theorem u8like_of (h : (P.info? e).map (fun i => (i.size, i.bytes, i.zero)) = some (1, 1, some (.int .u8 0))) : u8like P e := by
  rw [Option.map_eq_some_iff] at h
  obtain ⟨i, h1, h2⟩ := h
  simp only [Prod.mk.injEq] at h2
  exact ⟨i, h1, h2⟩
def zB (n : Nat) : Array Value := (bs (List.replicate n 0)).toArray
def inpl (C : Array Value) (o : Nat) (vs : List Value) : Array Value := (C.toList.take o ++ vs ++ C.toList.drop (o + vs.length)).toArray
def grow (C : Array Value) (o : Nat) (vs : List Value) (k : Nat) : Array Value := (C.toList.take o ++ vs).toArray ++ zB k
theorem zB_size (n : Nat) : (zB n).size = n := by simp [zB, bs]
theorem sizeOf_u8 (hi : u8like P e) (w : World) : (sizeOf e).run P w = .ok 1 w := by
  obtain ⟨i, h1, h2, _⟩ := hi
  simp [sizeOf, typeInfo, h1, h2]
theorem made_zB (n : Nat) : madeCells #[.int .u8 0] n = zB n := by
  apply Array.ext
  · simp [madeCells, zB, bs]
  · intro i h1 h2
    simp [madeCells, zB, bs, bv, Nat.mod_one]
theorem zero_zB (n : Nat) : Builtin.zeroCells #[.int .u8 0] n = zB n := by
  apply Array.ext
  · simp [Builtin.zeroCells, zB, bs]
  · intro i h1 h2
    simp [Builtin.zeroCells, zB, bs, bv, Nat.mod_one]
theorem oneCell_bs (xs : List UInt8) : ∀ u ∈ bs xs, u.oneCell' = true := by
  intro u hu
  obtain ⟨x, _, rfl⟩ := List.mem_map.1 hu
  rfl
theorem Bs.src {w : World} {a : Option Addr} {c : Nat} {xs : List UInt8} {tx e' : TypeId} (hk : P.underlying tx = some (.slice e')) (h : Bs w a c xs) : Src P 1 tx (.slice a xs.length c) xs.length (bs xs) w := by
  cases a with
  | none =>
    have h0 : xs = [] := by
      rcases h.rows with h0 | ⟨p, hp, _⟩
      · exact List.map_eq_nil_iff.1 h0
      · exact absurd hp (by simp)
    subst h0
    exact Src.ofNil w hk c
  | some p =>
    refine Src.ofSlice w hk p xs.length c (bs xs) (by rw [bs_length, Nat.mul_one]) ?_ (oneCell_bs xs)
    intro j u hu
    rcases h.rows with h0 | ⟨p', hp, hh⟩
    · rw [h0] at hu; simp at hu
    · obtain rfl : p = p' := by simpa using hp
      exact hh j u hu
theorem wrote_row {w : World} {g : Nat} {C C' : Array Value} {T : TypeId} (hg : w.heap[g]? = some (.cells C T (0, 0))) : Wrote w (w.setRow g C') g (.cells C' T (0, 0)) :=
  ⟨rfl, rfl, rfl, size_setRow w g C', fun b hb => setRow_other w g b C' hb, setRow_heap w g C C' T _ hg⟩
/-- There is room. -/
theorem app_room {w : World} {ty tx : TypeId} (ht : P.underlying t = some (.slice e)) (hi : u8like P e) {g n c : Nat} {C : Array Value} {x : Value} {ys : List UInt8} (hg : w.heap[g]? = some (.cells C e (0, 0)))
    (hs : Src P 1 tx x ys.length (bs ys) w) (hr : n + ys.length ≤ c) (hf : n + ys.length ≤ C.size) :
    ∃ w', (do pure (Next.value (← Builtin.append_ #[t, tx] ty #[.slice (some ⟨g, 0, none⟩) n c, x])) : Sem Next).run P w = .ok (.value (.slice (some ⟨g, 0, none⟩) (n + ys.length) c)) w' ∧ Wrote w w' g (.cells (inpl C n (bs ys)) e (0, 0)) := by
  obtain ⟨i, h1, h2, h3, h4⟩ := hi
  refine ⟨_, ?_, wrote_row hg⟩
  have hst := run_storeCells_at P g n e (bs ys) 0 C w hg (by rw [bs_length]; omega) (oneCell_bs ys)
  simp only [Nat.add_zero] at hst
  have hs2 : Src P i.size tx x ys.length (bs ys) w := by rw [h2]; exact hs
  have hrun : (Builtin.append_ #[t, tx] ty #[.slice (some ⟨g, 0, none⟩) n c, x]).run P w = .ok (.slice (some ⟨g, 0, none⟩) (n + ys.length) c) (w.setRow g (inpl C n (bs ys))) := by
    unfold inpl
    rcases hs.kind with ⟨e', hk⟩ | hk <;> simp [Builtin.append_, run_underlying ht, run_underlying hk, sizeOf, typeInfo, h1, h2, hs.len, hr, hs.cells, Addr.add_lit, hst]
  rw [Sem.run_bind, hrun]
  rfl
/-- There is none: a new row. -/
theorem app_grow {w : World} {ty tx : TypeId} (ht : P.underlying t = some (.slice e)) (hi : u8like P e) {a : Option Addr} {n c : Nat} {olds : List Value} {x : Value} {ys : List UInt8}
    (ho : (Builtin.firstCells 1 n (.slice a n c)).run P w.drew = .ok olds.toArray w.drew) (hs : Src P 1 tx x ys.length (bs ys) w) (hr : c < n + ys.length) (hm : n + ys.length ≤ 140737488351232) :
    ∃ k w', (do pure (Next.value (← Builtin.append_ #[t, tx] ty #[.slice a n c, x])) : Sem Next).run P w = .ok (.value (.slice (some ⟨w.heap.size, 0, none⟩) (n + ys.length) (n + ys.length + k))) w' ∧ Grew w w' (.cells ((olds ++ bs ys).toArray ++ zB k) e (0, 0)) := by
  obtain ⟨i, h1, h2, h3, h4⟩ := hi
  have hge := grownCap_ge w (n + ys.length) c e
  have hs2 : Src P i.size tx x ys.length (bs ys) w := by rw [h2]; exact hs
  have hrun := run_append_grow_src (P := P) w t tx ty e i (.int .u8 0) ht h1 h4 a n c olds (by rw [h2]; exact ho) x ys.length (bs ys) hs2 hr (by omega) (growslice_fits hr (by rw [h3]; omega))
  refine ⟨grownCap w (n + ys.length) c e - (n + ys.length), w.drew.alloc (.cells ((olds ++ bs ys).toArray ++ zB (grownCap w (n + ys.length) c e - (n + ys.length))) e), ?_, ⟨rfl, rfl, rfl, rfl⟩⟩
  rw [Sem.run_bind, hrun]
  rw [show (n + ys.length + (grownCap w (n + ys.length) c e - (n + ys.length))) = grownCap w (n + ys.length) c e by omega, ← zero_zB]
  rfl
theorem first_nil {w : World} : (Builtin.firstCells 1 0 (.slice none 0 0)).run P w = .ok ([] : List Value).toArray w := run_firstCells_none w 1 0 0 0
theorem first_row {w : World} {g n c : Nat} {C : Array Value} {T : TypeId} {fr : Nat × Nat} (hg : w.heap[g]? = some (.cells C T fr)) (hn : n ≤ C.size) : (Builtin.firstCells 1 n (.slice (some ⟨g, 0, none⟩) n c)).run P w = .ok (C.toList.take n).toArray w := by
  refine run_firstCells_some w 1 n ⟨g, 0, none⟩ n c (C.toList.take n) (by simp; omega) (fun j v hv => ?_)
  rw [Addr.add_lit]
  unfold World.cell?
  simp only [hg]
  rw [List.getElem?_take] at hv
  split at hv
  · simpa using hv
  · exact absurd hv (by simp)
/-- copy into the head of a row. -/
theorem copy_row {w : World} {ty tx : TypeId} (ht : P.underlying t = some (.slice e)) (hi : u8like P e) {g n c : Nat} {C : Array Value} {T : TypeId} {a : Option Addr} {m d : Nat} {xs : List UInt8} (hg : w.heap[g]? = some (.cells C T (0, 0)))
    (hb : Bs w a d xs) (hm : m = xs.length) (hn : n ≤ C.size) :
    ∃ w', (do pure (Next.value (← Builtin.copy_ #[t, tx] ty #[.slice (some ⟨g, 0, none⟩) n c, .slice a m d])) : Sem Next).run P w = .ok (.value (goInt (Nat.min xs.length n))) w' ∧ Wrote w w' g (.cells (inpl C 0 (bs (xs.take n))) T (0, 0)) := by
  subst hm
  obtain ⟨i, h1, h2, h3, h4⟩ := hi
  refine ⟨_, ?_, wrote_row hg⟩
  have hlen : (bs (xs.take n)).length = Nat.min xs.length n := by rw [bs_length, List.length_take]; exact Nat.min_comm _ _
  have hst := run_storeCells_at P g 0 T (bs (xs.take n)) 0 C w hg (by rw [bs_length, List.length_take]; omega) (oneCell_bs _)
  simp only [Nat.add_zero] at hst
  have hfc : (Builtin.firstCells 1 (Nat.min xs.length n) (.slice a xs.length d)).run P w = .ok (bs (xs.take n)).toArray w := by
    cases a with
    | none =>
      have h0 : xs = [] := by
        rcases hb.rows with h0 | ⟨p, hp, _⟩
        · exact List.map_eq_nil_iff.1 h0
        · exact absurd hp (by simp)
      subst h0
      simp [Builtin.firstCells, bs]
    | some p =>
      refine run_firstCells_some w 1 _ p _ d (bs (xs.take n)) (by rw [hlen, Nat.mul_one]) (fun j v hv => ?_)
      rcases hb.rows with h0 | ⟨p', hp, hh⟩
      · have h0' : xs = [] := List.map_eq_nil_iff.1 h0
        subst h0'
        simp [bs] at hv
      · obtain rfl : p = p' := by simpa using hp
        apply hh j v
        unfold bs at hv ⊢
        rw [List.map_take, List.getElem?_take] at hv
        split at hv
        · exact hv
        · exact absurd hv (by simp)
  have hrun : (Builtin.copy_ #[t, tx] ty #[.slice (some ⟨g, 0, none⟩) n c, .slice a xs.length d]).run P w = .ok (goInt (Nat.min xs.length n)) (w.setRow g (inpl C 0 (bs (xs.take n)))) := by
    unfold inpl
    simp [Builtin.copy_, run_underlying ht, Builtin.lenOf, sizeOf, typeInfo, h1, h2, hfc, hst]
  rw [Sem.run_bind, hrun]
  rfl
theorem make_row (ht : P.underlying t = some (.slice e)) (hi : u8like P e) {kl kc : IntKind} {n c : Nat} (hn : n ≤ c) (hc : c ≤ 140737488351232) (w : World) :
    ∃ k w', (do pure (Next.value (← Instr.makeSlice t (.int kl (n : Int)) (.int kc (c : Int)))) : Sem Next).run P w = .ok (.value (.slice (some ⟨([w.heap.size, k] : List Nat).headD 0, 0, none⟩) n c)) w' ∧ Grew w w' (.cells (zB c) e (0, 0)) := by
  obtain ⟨i, h1, h2, h3, h4⟩ := hi
  have hr := run_make (P := P) w t e i _ ht h1 h4 kl kc n c (by omega) (by omega) (by rw [h3]; omega) (by omega)
  refine ⟨0, w.alloc (.cells (zB c) e), ?_, ⟨rfl, rfl, rfl, rfl⟩⟩
  rw [Sem.run_bind, hr]
  simp only [h2, Nat.mul_one, Int.toNat_natCast]
  rw [← made_zB]
  rfl
theorem idx_bytes (ht : P.underlying t = some (.slice e)) (hi : u8like P e) {w : World} {a : Option Addr} {c m : Nat} {xs : List UInt8} {k : IntKind} {z : Int} {j : Nat} (hb : Bs w a c xs) (hm : m = xs.length) (hz : z = (j : Int)) (hj : j < xs.length) :
    (do pure (Next.value (← Instr.indexAt t (.slice a m c) (.int k z))) : Sem Next).run P w = .ok (.value (.pointer (adr a j))) w := by
  subst hm hz
  obtain ⟨p, rfl, _⟩ := hb.cell hj
  have hs := sizeOf_u8 hi w
  simp [Instr.indexAt, asIntOf, Sem.run_bind, run_underlying ht, hj, hs, adr]
theorem ld_bytes {w : World} {a : Option Addr} {c : Nat} {xs : List UInt8} {j : Nat} (ha : ∀ w, (isAgg e).run P w = .ok false w) (hb : Bs w a c xs) (hj : j < xs.length) :
    (do pure (Next.value (← Instr.loadAt e (.pointer (adr a j)))) : Sem Next).run P w = .ok (.value (.int .u8 (gB xs j : Int))) w := by
  obtain ⟨p, rfl, hp⟩ := hb.cell hj
  simp only [adr, Option.map_some, Instr.loadAt, Instr.sureAddr, loadVar, Sem.run_bind, Sem.run_pure, Result.andThen_ok, ha, Bool.false_eq_true, if_false, load, Sem.run, hp]
def natO : Option Nat → Option Value := Option.map fun n => .int .i64 (n : Int)
theorem slice_bytes (ht : P.underlying t = some (.slice e)) (hi : u8like P e) {w : World} {a : Option Addr} {c m : Nat} {xs : List UInt8} {lo hi' : Option Value} {l k : Nat} (hb : Bs w a c xs) (hm : m = xs.length)
    (hlo : lo = none ∧ l = 0 ∨ lo = some (.int .i64 (l : Int))) (hhi : hi' = none ∧ k = xs.length ∨ hi' = some (.int .i64 (k : Int))) (hl : l ≤ k) (hk : k ≤ xs.length) :
    (do pure (Next.value (← Instr.sliceAt t (.slice a m c) lo hi' none)) : Sem Next).run P w = .ok (.value (.slice (sadr a l c) (mid xs l k).length (c - l))) w := by
  subst hm
  have hle := hb.le
  have hs := sizeOf_u8 hi w
  have h1 : l ≤ k := by omega
  have h2 : k ≤ c := by omega
  rw [mid_length xs l k hk]
  have hb1 : (Instr.sliceBounds true xs.length c lo hi' none).run P w = .ok (l, k, c) w := by
    rcases hlo with ⟨rfl, rfl⟩ | rfl
    · rcases hhi with ⟨rfl, rfl⟩ | rfl
      · simp [Instr.sliceBounds]
      · simp [Instr.sliceBounds, Instr.sliceBound, asIntOf, h2]
    · rcases hhi with ⟨rfl, rfl⟩ | rfl
      · simp [Instr.sliceBounds, Instr.sliceBound, asIntOf, h1]
      · simp [Instr.sliceBounds, Instr.sliceBound, asIntOf, h1, h2]
  simp [Instr.sliceAt, Instr.slice, run_underlying ht, hs, sadr, adr, hb1]
def strB (xs : List UInt8) : ByteArray := ⟨xs.toArray⟩
theorem str_bytes {ts : TypeId} (ht : P.underlying t = some (.slice e)) (he : P.underlying e = some (.int .u8)) (hd : P.underlying ts = some .string) {w : World} {a : Option Addr} {c m : Nat} {xs : List UInt8} (hb : Bs w a c xs) (hm : m = xs.length) :
    (do pure (Next.value (← convert t ts (.slice a m c))) : Sem Next).run P w = .ok (.value (.string (strB xs))) w := by
  subst hm
  cases a with
  | none =>
    have h0 : xs = [] := by
      rcases hb.rows with h0 | ⟨p, hp, _⟩
      · exact List.map_eq_nil_iff.1 h0
      · exact absurd hp (by simp)
    subst h0
    simp [run_convert_bytes_string w t ts e none _ c ht he hd, Conv.bytesToString, strB]
    rfl
  | some p =>
    rw [Sem.run_bind, run_convert_bytes_back w t ts e p c xs ht he hd]
    · rfl
    · intro j hj
      obtain ⟨p', hp, hc⟩ := hb.cell hj
      obtain rfl : p = p' := by simpa using hp
      rw [hc]
      simp [gB, List.getD, List.getElem?_eq_getElem hj]
/-- The head of a row holds the bytes xs. -/
def Hd (C : Array Value) (xs : List UInt8) : Prop := C.toList.take xs.length = bs xs
theorem Hd.size {C : Array Value} {xs : List UInt8} (h : Hd C xs) : xs.length ≤ C.size := by
  have := congrArg List.length h
  rw [bs_length, List.length_take] at this
  simp at this
  omega
theorem Hd.nil (C : Array Value) : Hd C [] := by simp [Hd, bs]
theorem Hd.all (xs : List UInt8) : Hd (bs xs).toArray xs := by
  unfold Hd
  rw [← bs_length]
  simp
theorem inpl_size (C : Array Value) (o : Nat) (vs : List Value) (h : o + vs.length ≤ C.size) : (inpl C o vs).size = C.size := by
  simp [inpl]
  omega
theorem Hd.inpl {C : Array Value} {xs ys : List UInt8} (h : Hd C xs) {n : Nat} (hn : n = xs.length) : Hd (inpl C n (bs ys)) (xs ++ ys) := by
  subst hn
  unfold Hd at h ⊢
  unfold Ytclccfibfkcagaa.inpl
  rw [h, bs_app, List.length_append]
  have : xs.length + ys.length = (bs xs ++ bs ys).length := by rw [List.length_append, bs_length, bs_length]
  rw [this]
  simp only [List.append_assoc]
  rw [← List.append_assoc, List.take_left]
theorem Hd.grow {C : Array Value} {xs ys : List UInt8} (h : Hd C xs) {k n : Nat} (hn : n = xs.length) : Hd (grow C n (bs ys) k) (xs ++ ys) := by
  subst hn
  unfold Hd at h ⊢
  unfold Ytclccfibfkcagaa.grow
  rw [h, bs_app, List.length_append]
  have : xs.length + ys.length = (bs xs ++ bs ys).length := by rw [List.length_append, bs_length, bs_length]
  rw [this]
  simp only [Array.toList_append, List.append_assoc]
  rw [← List.append_assoc, List.take_left]
theorem grow_size {C : Array Value} {n : Nat} {ys : List UInt8} {k : Nat} (h : n ≤ C.size) : (grow C n (bs ys) k).size = n + ys.length + k := by
  simp [grow, bs, zB]
  omega
theorem Bs.of_hd {w : World} {g : Nat} {C : Array Value} {T : TypeId} {fr : Nat × Nat} {c : Nat} {xs : List UInt8} (hb : w.heap[g]? = some (.cells C T fr)) (hx : Hd C xs) (hc : xs.length ≤ c) (hm : xs.length ≤ 140737488351232) : Bs w (some ⟨g, 0, none⟩) c xs :=
  Bs.of_block hb hx hc hm
/-- A row of the call's own, handed back. -/
theorem St.fresh {w0 w : World} {h : List (Nat × Obj)} {F : World → Prop} (hS : St w0 h F w) {g : Nat} {C : Array Value} {T : TypeId} {fr : Nat × Nat} {c : Nat} {xs : List UInt8} (hg : (g, .cells C T fr) ∈ h) (hx : Hd C xs) (hc : xs.length ≤ c) (hm : xs.length ≤ 140737488351232) : Fs w0 w (some ⟨g, 0, none⟩) c xs := by
  refine ⟨Bs.of_hd (hS.at_ _ hg).2 hx hc hm, fun p hp _ => ?_⟩
  obtain rfl : (⟨g, 0, none⟩ : Addr) = p := by simpa using hp
  exact (hS.at_ _ hg).1
end
end Go.Proofs.Ytclccfibfkcagaa
