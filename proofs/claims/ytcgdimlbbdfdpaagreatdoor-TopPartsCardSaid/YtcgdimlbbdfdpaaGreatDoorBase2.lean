/-
  What this statement needs, part 2: the texts of it, one behind the other.
-/
import Derived.Test.YtcgdimlbbdfdpaaGreatDoorBase1
import Derived.Deep.AppendSrc
import Derived.Laws.BytesString
set_option maxRecDepth 100000
set_option linter.all false
namespace Go.Proofs.YtcgdimlbbdfdpaaGreatDoor
open Go Go.RowKit
def iQ : Obj → Nat
  | .cells c _ _ => c.size
  | _ => 0
def FzOk (w : World) (a : Nat) (us : List Value) : Prop := ∀ (j : Nat) (u : Value), us[j]? = some u → u ≠ .chan none → w.cell? ⟨a, j, none⟩ = some u
theorem FzOk.of {w : World} {a : Nat} {us : List Value} {e : TypeId} {fr : Nat × Nat} (h : w.heap[a]? = some (.cells us.toArray e fr)) : FzOk w a us := fun j u hj _ => by
  unfold World.cell?
  rw [h]
  simpa using hj
theorem FzOk.same {w w' : World} {a : Nat} {us : List Value} (h : FzOk w a us) (e : w'.heap[a]? = w.heap[a]?) : FzOk w' a us := fun j u hj hn => by
  have := h j u hj hn
  unfold World.cell? at *
  rw [e]
  exact this
theorem RV.nch {β : Names} {c : CV} {u : Value} (h : RV β c u) : u ≠ .chan none := by
  rintro rfl
  cases c <;> simp [RV] at h
theorem bJ.nch {β : Names} : ∀ {l : List CV} {us : List Value}, bJ β l us → ∀ {j : Nat} {u : Value}, us[j]? = some u → u ≠ .chan none
  | [], us, h, j, u, hj => by
    rw [show us = [] from h] at hj
    simp at hj
  | _ :: _, _, ⟨v, r, e, h1, h2⟩, j, u, hj => by
    subst e
    cases j with
    | zero =>
      obtain rfl := Option.some.inj hj
      exact h1.nch
    | succ j => exact bJ.nch h2 (by simpa using hj)
structure HV (V : Acc) (β : Names) (w : World) : Prop where
  at_ : ∀ n o, V n = some o → ∃ a ob, β.ad n = some a ∧ w.heap[a]? = some ob ∧ RO β o ob ∧ β.sz n = iQ ob
  inj : ∀ n m a, V n ≠ none → V m ≠ none → β.ad n = some a → β.ad m = some a → n = m
  fpa : ∀ a, β.fp a → a < w.heap.size ∧ ∀ n, V n ≠ none → β.ad n ≠ some a
  sxf : ∀ a us, β.sx a us → ∀ w' : World, (∀ a, β.fp a → w'.heap[a]? = w.heap[a]?) → FzOk w' a us
structure UpN (S : Nat → Prop) (w w' : World) : Prop where
  os : w'.os = w.os
  tape : w'.tape = w.tape
  output : w'.output = w.output
  size : w.heap.size ≤ w'.heap.size
  block : ∀ k, k < w.heap.size → ¬ S k → w'.heap[k]? = w.heap[k]?
theorem UpN.refl (S : Nat → Prop) (w : World) : UpN S w w := ⟨rfl, rfl, rfl, Nat.le_refl _, fun _ _ _ => rfl⟩
def Im (β : Names) (l : List Nat) : Nat → Prop := fun b => ∃ p, p ∈ l ∧ β.ad p = some b
structure pK (β β' : Names) (n0 n1 : Nat) (puts : List Nat) (w w' : World) : Prop where
  ext : ∀ n, (n < n0 ∨ n1 ≤ n) → β'.ad n = β.ad n ∧ β'.sz n = β.sz n
  sxm : ∀ a us, β.sx a us → β'.sx a us
  fpm : ∀ a, β.fp a → β'.fp a
  fpn : ∀ a, β'.fp a → β.fp a ∨ w.heap.size ≤ a
  le : n0 ≤ n1
  upd : UpN (Im β puts) w w'
  born : ∀ n a, n0 ≤ n → n < n1 → β'.ad n = some a → w.heap.size ≤ a ∨ Im β puts a
def mW (β : Names) (n0 n1 : Nat) : Prop := ∀ n, n0 ≤ n → n < n1 → β.ad n = none
theorem pK.sub {β β' : Names} {n0 n1 : Nat} {puts : List Nat} {w w' : World} (h : pK β β' n0 n1 puts w w') (hf : mW β n0 n1) : Sub β β' := by
  refine ⟨fun g a hg => ?_, h.sxm⟩
  by_cases hh : g < n0 ∨ n1 ≤ g
  · rw [(h.ext g hh).1, (h.ext g hh).2]; exact ⟨hg, rfl⟩
  · rw [hf g (by omega) (by omega)] at hg; simp at hg
theorem pK.refl (β : Names) (n : Nat) (w : World) : pK β β n n [] w w := ⟨fun _ _ => ⟨rfl, rfl⟩, fun _ _ h => h, fun _ h => h, fun _ h => Or.inl h, Nat.le_refl _, UpN.refl _ _, fun m a h1 h2 => by omega⟩
noncomputable def nS (V : Acc) (H : Tr HO) (n0 n1 : Nat) (puts : List Nat) : Acc := fun n => if (n0 ≤ n ∧ n < n1) ∨ n ∈ puts then H.get n else V n
def opw (P : Program) (s : Sem Next) (w : World) (K : Value → World → Prop) : Prop :=
  match s.run P w with
  | .ok (.value v) w' => K v w'
  | .ok .skip w' => K undef w'
  | .ok (.enter f args) w' => Calls P f args w' fun e w'' => match e with
    | .returned v => K v w''
    | _ => False
  | _ => False
theorem dZ {P : Program} {s : Sem Next} {w w' : World} {u : Value} {K : Value → World → Prop} (h : s.run P w = .ok (.value u) w') (k : K u w') : opw P s w K := by unfold opw; rw [h]; exact k
theorem opw_skip {P : Program} {s : Sem Next} {w w' : World} {K : Value → World → Prop} (h : s.run P w = .ok .skip w') (k : K undef w') : opw P s w K := by unfold opw; rw [h]; exact k
def OpS (P : Program) (s : Sem Next) (V : Acc) (β : Names) (n0 : Nat) (v : CV) (H : Tr HO) (n1 : Nat) (puts : List Nat) : Prop :=
  ∀ w, HV V β w → mW β n0 n1 → opw P s w (fun u w' => ∃ β', pK β β' n0 n1 puts w w' ∧ RV β' v u ∧ HV (nS V H n0 n1 puts) β' w')
section
variable {P : Program} {β : Names} {V : Acc} {w : World}
theorem mJ (V : Acc) (H : Tr HO) (n : Nat) : nS V H n n [] = V := by
  funext m
  unfold nS
  rw [if_neg (by simp)]
theorem HV.lt (h : HV V β w) {n a : Nat} (hv : V n ≠ none) (hb : β.ad n = some a) : a < w.heap.size := by
  obtain ⟨o, ho⟩ := Option.ne_none_iff_exists'.1 hv
  obtain ⟨a', ob, h1, h2, _⟩ := h.at_ n o ho
  rw [hb] at h1
  obtain rfl := Option.some.inj h1
  exact (Array.getElem?_eq_some_iff.1 h2).1
theorem HV.fp_lt (h : HV V β w) {w' : World} {a : Nat} (ha : β.fp a) (hq : w'.heap[a]? = w.heap[a]?) : a < w'.heap.size := by
  have h1 := (h.fpa a ha).1
  rw [Array.getElem?_eq_getElem h1] at hq
  exact (Array.getElem?_eq_some_iff.1 hq).1
theorem HV.same (h : HV V β w) {w' : World} (hw : ∀ n a, V n ≠ none → β.ad n = some a → w'.heap[a]? = w.heap[a]?) (hq : ∀ a, β.fp a → w'.heap[a]? = w.heap[a]?) : HV V β w' :=
  ⟨fun n o ho => by
    obtain ⟨a, ob, h1, h2, h3⟩ := h.at_ n o ho
    exact ⟨a, ob, h1, by rw [hw n a (by rw [ho]; simp) h1]; exact h2, h3⟩, h.inj, fun a ha => ⟨h.fp_lt ha (hq a ha), (h.fpa a ha).2⟩, fun s x hg w'' hw'' => h.sxf s x hg w'' (fun a ha => (hw'' a ha).trans (hq a ha))⟩
def jQ (β : Names) (n a k : Nat) : Names := ⟨fun m => if m = n then some a else β.ad m, fun m => if m = n then k else β.sz m, β.sx, β.fp⟩
theorem dI (β : Names) (n a k : Nat) : (jQ β n a k).ad n = some a := by unfold jQ; simp
theorem mX (β : Names) (n a k : Nat) : (jQ β n a k).sz n = k := by unfold jQ; simp
theorem dL (β : Names) {n m : Nat} (a k : Nat) (h : m ≠ n) : (jQ β n a k).ad m = β.ad m := by unfold jQ; simp [h]
theorem oH (β : Names) {n m : Nat} (a k : Nat) (h : m ≠ n) : (jQ β n a k).sz m = β.sz m := by unfold jQ; simp [h]
theorem iK {n a k : Nat} (hf : β.ad n = none) : Sub β (jQ β n a k) := by
  refine ⟨fun g x hg => ?_, fun _ _ h => h⟩
  have hne : g ≠ n := by rintro rfl; rw [hf] at hg; simp at hg
  rw [dL _ _ _ hne, oH _ _ _ hne]
  exact ⟨hg, rfl⟩
theorem HV.push (h : HV V β w) {H : Tr HO} {n : Nat} {o : HO} {ob : Obj} {w' : World} (hf : β.ad n = none) (hg : H.get n = some o) (hw : w'.heap = w.heap.push ob) (ho : RO (jQ β n w.heap.size (iQ ob)) o ob) : HV (nS V H n (n + 1) []) (jQ β n w.heap.size (iQ ob)) w' := by
  have av : ∀ m, nS V H n (n + 1) [] m = if m = n then some o else V m := by
    intro m
    unfold nS
    by_cases hm : m = n
    · subst hm; rw [if_pos (by simp), if_pos rfl, hg]
    · rw [if_neg (by simp; omega), if_neg hm]
  refine ⟨fun m x hx => ?_, fun m k a hm hk hma hka => ?_, fun a ha => ?_, fun s x hgc w'' hw'' => h.sxf s x hgc w'' (fun a ha => (hw'' a ha).trans (by have := (h.fpa a ha).1; rw [hw, Array.getElem?_push, if_neg (by omega)]))⟩
  · rw [av] at hx
    by_cases hm : m = n
    · rw [if_pos hm] at hx
      obtain rfl := Option.some.inj hx
      subst hm
      exact ⟨_, ob, dI _ _ _ _, by rw [hw]; simp, ho, mX _ _ _ _⟩
    · rw [if_neg hm] at hx
      obtain ⟨a, ob', h1, h2, h3, h4⟩ := h.at_ m x hx
      refine ⟨a, ob', by rw [dL _ _ _ hm]; exact h1, ?_, h3.mono (iK hf), by rw [oH _ _ _ hm]; exact h4⟩
      have hlt := (Array.getElem?_eq_some_iff.1 h2).1
      rw [hw, Array.getElem?_push, if_neg (by omega)]
      exact h2
  · rw [av] at hm hk
    by_cases e1 : m = n <;> by_cases e2 : k = n
    · rw [e1, e2]
    · subst e1
      rw [dI] at hma
      rw [dL _ _ _ e2] at hka
      rw [if_neg e2] at hk
      have := h.lt hk hka
      have := Option.some.inj hma
      omega
    · subst e2
      rw [dI] at hka
      rw [dL _ _ _ e1] at hma
      rw [if_neg e1] at hm
      have := h.lt hm hma
      have := Option.some.inj hka
      omega
    · rw [dL _ _ _ e1] at hma
      rw [dL _ _ _ e2] at hka
      rw [if_neg e1] at hm
      rw [if_neg e2] at hk
      exact h.inj m k a hm hk hma hka
  · have h1 := h.fpa a ha
    refine ⟨by rw [hw]; simp; omega, fun m hm hma => ?_⟩
    rw [av] at hm
    by_cases e : m = n
    · subst e
      rw [dI] at hma
      have := Option.some.inj hma
      omega
    · rw [if_neg e] at hm
      rw [dL _ _ _ e] at hma
      exact h1.2 m hm hma
theorem trPush {n k : Nat} {ob : Obj} {w' : World} (hw : w'.heap = w.heap.push ob) (h1 : w'.os = w.os) (h2 : w'.tape = w.tape) (h3 : w'.output = w.output) : pK β (jQ β n w.heap.size k) n (n + 1) [] w w' := by
  refine ⟨fun m hm => ⟨dL _ _ _ (by omega), oH _ _ _ (by omega)⟩, fun _ _ h => h, fun _ h => h, fun _ h => Or.inl h, by omega, ⟨h1, h2, h3, by rw [hw]; simp, fun k hk _ => ?_⟩, fun m a hm1 hm2 ha => ?_⟩
  · rw [hw, Array.getElem?_push, if_neg (by omega)]
  · obtain rfl : m = n := by omega
    rw [dI] at ha
    exact Or.inl (by rw [← Option.some.inj ha]; exact Nat.le_refl _)
theorem opS_v {s : Sem Next} {n : Nat} {c : CV} {H : Tr HO} (h : fE P s β n (.v c)) : OpS P s V β n c H n [] := by
  intro w hV _
  obtain ⟨u, h1, h2⟩ := h w
  exact dZ h1 ⟨β, pK.refl _ _ _, h2, by rw [mJ]; exact hV⟩
theorem opS_w {s : Sem Next} {n : Nat} {c : CV} {o : HO} {H : Tr HO} (h : fE P s β n (.w c o)) : OpS P s V β n c (H.set n o) (n + 1) [] := by
  intro w hV hf
  have hn : β.ad n = none := hf n (Nat.le_refl _) (by omega)
  obtain ⟨u0, rob0, h0, _, _⟩ := h w (jQ β n w.heap.size 0) (iK hn) (dI _ _ _ _)
  obtain ⟨u, rob, h1, h2, h3⟩ := h w (jQ β n w.heap.size (iQ rob0)) (iK hn) (dI _ _ _ _)
  have e : rob = rob0 := by
    rw [h1] at h0
    have h5 := congrArg World.heap (Result.ok.inj h0).2
    have h6 := congrArg (fun l => l[w.heap.size]?) h5
    simpa using h6
  subst e
  exact dZ h1 ⟨_, trPush rfl rfl rfl rfl, h2, hV.push hn (by rw [Tr.get_set, if_pos rfl]) rfl h3⟩
theorem HV.put (h : HV V β w) {H : Tr HO} {n g a : Nat} {o o' : HO} {ob' : Obj} {w' : World} (hv : V g = some o) (hb : β.ad g = some a) (hg : H.get g = some o') (hw : ∀ k, k ≠ a → w'.heap[k]? = w.heap[k]?) (ha : w'.heap[a]? = some ob') (ho : RO β o' ob') (hz : β.sz g = iQ ob') : HV (nS V H n n [g]) β w' := by
  have av : ∀ m, nS V H n n [g] m = if m = g then some o' else V m := by
    intro m
    unfold nS
    by_cases hm : m = g
    · subst hm; rw [if_pos (by simp), if_pos rfl, hg]
    · rw [if_neg (by simp [hm]), if_neg hm]
  have nn : ∀ m, nS V H n n [g] m ≠ none → V m ≠ none := by
    intro m hm
    rw [av] at hm
    by_cases e : m = g
    · rw [e, hv]; simp
    · rw [if_neg e] at hm; exact hm
  have fpne : ∀ b, β.fp b → w'.heap[b]? = w.heap[b]? := fun b hb' => hw b (fun e => (h.fpa b hb').2 g (by rw [hv]; simp) (by rw [e]; exact hb))
  refine ⟨fun m x hx => ?_, fun m k b hm hk => h.inj m k b (nn m hm) (nn k hk), fun b hb' => ⟨h.fp_lt hb' (fpne b hb'), fun m hm => (h.fpa b hb').2 m (nn m hm)⟩, fun s x hgc w'' hw'' => h.sxf s x hgc w'' (fun b hb' => (hw'' b hb').trans (fpne b hb'))⟩
  rw [av] at hx
  by_cases hm : m = g
  · rw [if_pos hm] at hx
    obtain rfl := Option.some.inj hx
    subst hm
    exact ⟨a, ob', hb, ha, ho, hz⟩
  · rw [if_neg hm] at hx
    obtain ⟨b, ob, h1, h2, h3⟩ := h.at_ m x hx
    refine ⟨b, ob, h1, ?_, h3⟩
    rw [hw b (fun e => hm (h.inj m g a (by rw [hx]; simp) (by rw [hv]; simp) (by rw [← e]; exact h1) hb))]
    exact h2
theorem trPut {n g a : Nat} {w' : World} (hb : β.ad g = some a) (hs : w'.heap.size = w.heap.size) (hw : ∀ k, k ≠ a → w'.heap[k]? = w.heap[k]?) (h1 : w'.os = w.os) (h2 : w'.tape = w.tape) (h3 : w'.output = w.output) : pK β β n n [g] w w' :=
  ⟨fun _ _ => ⟨rfl, rfl⟩, fun _ _ h => h, fun _ h => h, fun _ h => Or.inl h, Nat.le_refl _, ⟨h1, h2, h3, by omega, fun k _ hk => hw k (fun e => hk ⟨g, by simp, by rw [e]; exact hb⟩)⟩, fun m b hm1 hm2 => by omega⟩
theorem loadF_ok {ag : Bool} {t : TypeId} {n o : Nat} {ob : HO} {rob : Obj} {c : CV} {a : Nat} (hag : fQ P t = some ag) (hz : qV P t = some n) (hr : RO β ob rob) (hw : w.heap[a]? = some rob) (h : yE ag n o ob = some c) : ∃ u, (loadVar t ⟨a, o, none⟩).run P w = .ok u w ∧ RV β c u := by
  cases ob with
  | cells cs e room =>
    obtain ⟨us, lo, hi, rfl, h1, h2, h3, h4⟩ := hr
    have cell : ∀ i x, cs[i]? = some x → ∃ u, w.cell? ⟨a, i, none⟩ = some u ∧ RV β x u := by
      intro i x hx
      obtain ⟨u, k1, k2⟩ := h4 i x hx
      refine ⟨u, ?_, k2⟩
      unfold World.cell?
      rw [hw]
      simpa using k1
    simp only [yE] at h
    cases ag with
    | true =>
      simp only [] at h
      split at h
      · rename_i hb
        have hb := dK hb
        simp only [Option.some.injEq] at h
        subst h
        have hl : (cut cs o n).length = n := jH hb
        have hg : ∀ j, j < n → ∃ u, us[o + j]? = some u ∧ w.cell? ⟨a, o + j, none⟩ = some u := by
          intro j hj
          have hlt : o + j < us.size := by omega
          refine ⟨us[o + j], Array.getElem?_eq_getElem hlt, ?_⟩
          unfold World.cell?
          rw [hw]; simp [hlt]
        have hs : ((us.toList.drop o).take n).length = n := by
          rw [List.length_take, List.length_drop, Array.length_toList]; omega
        have hrun := run_loadCells_list (P := P) w ⟨a, o, none⟩ ((us.toList.drop o).take n) (fun j v hj => by
          rw [bY]
          have hj' : j < n := by rw [← hs]; exact (List.getElem?_eq_some_iff.1 hj).1
          obtain ⟨u, k1, k2⟩ := hg j hj'
          rw [k2]
          rw [List.getElem?_take_of_lt hj', List.getElem?_drop, Array.getElem?_toList, k1] at hj
          exact hj)
        rw [hs] at hrun
        refine ⟨.agg ((us.toList.drop o).take n).toArray, ?_, ⟨_, rfl, ?_⟩⟩
        · simp [loadVar, iF hag, bP hz, hrun]
        · refine bJ.of_get (by rw [hl, List.toList_toArray, hs]) (fun i x hx => ?_)
          have hi' : i < n := by rw [← hl]; exact (List.getElem?_eq_some_iff.1 hx).1
          unfold cut at hx
          rw [List.getElem?_take_of_lt hi', List.getElem?_drop] at hx
          obtain ⟨u, k1, k2⟩ := h4 _ x hx
          exact ⟨u, by rw [List.toList_toArray, List.getElem?_take_of_lt hi', List.getElem?_drop, Array.getElem?_toList]; exact k1, k2⟩
      · simp at h
    | false =>
      simp only [] at h
      obtain ⟨u, k1, k2⟩ := cell o c h
      refine ⟨u, ?_, k2⟩
      simp only [loadVar, Sem.run_bind, iF hag, Result.andThen_ok, Bool.false_eq_true, if_false, run_load, k1]
  | map _ _ => simp [yE] at h
  | iter _ _ _ _ => simp [yE] at h
  | ro _ => simp [yE] at h
  | rw _ => simp [yE] at h
theorem wO.rv {s : Value} {x : Int} (h : wO β s x) : RV β (.fz (scrC x) 0 4) s := by
  obtain ⟨a, off, c, us, rfl, h1, rfl, h2, h3, h4⟩ := h
  refine ⟨a, 0, c, us, rfl, h1, Or.inr rfl, h2, ?_⟩
  show bJ β (scrC x) (us.take 4)
  rw [h4]
  exact ⟨_, _, rfl, ⟨rfl, nofun⟩, _, _, rfl, ⟨rfl, nofun⟩, _, _, rfl, ⟨rfl, fun _ => h3⟩, _, _, rfl, ⟨rfl, nofun⟩, rfl⟩
theorem wO.sl {s : Value} {x : Int} (h : wO β s x) : ∃ b m, s = .slice b 4 m := by
  obtain ⟨a, off, c, us, rfl, _⟩ := h
  exact ⟨_, _, rfl⟩
theorem coinV_rv {c : aJ} {s : Value} (hc : CoinOk c) (hs : wO β s c.x) : bJ β (nO c) (iH c s) := by
  unfold nO iH
  refine bJ.append ?_ ⟨_, _, rfl, ⟨rfl, fun _ => hc.2.1⟩, _, _, rfl, ⟨rfl, fun _ => hc.2.2.1⟩, _, _, rfl, hs.rv, _, _, rfl, ⟨rfl, fun _ => hc.2.2.2⟩, _, _, rfl, rfl, rfl⟩
  refine bJ.of_get (by simp) (fun i x hx => ?_)
  rw [List.getElem?_map, Option.map_eq_some_iff] at hx
  obtain ⟨j, hj, rfl⟩ := hx
  refine ⟨.int .u8 (c.o.getD j 0), by rw [List.getElem?_map, hj]; rfl, rfl, fun _ => hc.1 j ?_⟩
  have := List.mem_of_getElem? hj
  exact List.mem_range.1 this
theorem loadP_ok {ag : Bool} {t : TypeId} {n k i : Nat} {cs : List aJ} {rob : Obj} {c : CV} {a : Nat} (hag : fQ P t = some ag) (hz : qV P t = some n) (hr : RO β (.rw cs) rob) (hw : w.heap[a]? = some rob) (hi : i < cs.length) (h : loadP ag n k (cs.getD i cn0) = some c) : ∃ u, (loadVar t ⟨a, 37 * i + k, none⟩).run P w = .ok u w ∧ RV β c u := by
  obtain ⟨us, e, lo, hi', rfl, h1, h2, h3⟩ := hr
  have hc : cs[i]? = some (cs.getD i cn0) := by rw [List.getD_eq_getElem?_getD, List.getElem?_eq_getElem hi]; rfl
  obtain ⟨k1, s, k2, k4⟩ := h3 i _ hc
  have hV := coinV_rv k1 k2
  have hlen : (iH (cs.getD i cn0) s).length = 37 := by simp [iH]
  have hlenV : (nO (cs.getD i cn0)).length = 37 := by simp [nO]
  generalize cs.getD i cn0 = cn at *
  have cell : ∀ j u, (iH cn s)[j]? = some u → w.cell? ⟨a, 37 * i + j, none⟩ = some u := by
    intro j u hu
    unfold World.cell?
    rw [hw]
    simpa using k4 j u hu
  unfold loadP at h
  cases ag with
  | true =>
    simp only [] at h
    split at h
    · rename_i hb
      have hb := dK hb
      simp only [Option.some.injEq] at h
      subst h
      have hs : (((iH cn s).drop k).take n).length = n := by rw [List.length_take, List.length_drop, hlen]; omega
      have hrun := run_loadCells_list (P := P) w ⟨a, 37 * i + k, none⟩ (((iH cn s).drop k).take n) (fun j v hj => by
        rw [bY]
        have hj' : j < n := by rw [← hs]; exact (List.getElem?_eq_some_iff.1 hj).1
        rw [List.getElem?_take_of_lt hj', List.getElem?_drop] at hj
        rw [Nat.add_assoc]
        exact cell _ _ hj)
      rw [hs] at hrun
      refine ⟨.agg (((iH cn s).drop k).take n).toArray, ?_, ⟨_, rfl, ?_⟩⟩
      · simp [loadVar, iF hag, bP hz, hrun]
      · rw [List.toList_toArray]
        exact (hV.drop k).take n
    · simp at h
  | false =>
    simp only [] at h
    obtain ⟨u, q1, q2⟩ := hV.get h
    refine ⟨u, ?_, q2⟩
    simp only [loadVar, Sem.run_bind, iF hag, Result.andThen_ok, Bool.false_eq_true, if_false, run_load, cell k u q1]
theorem loadp_ok {t : TypeId} {a : Operand} {f : yZ} {ag : Bool} {n : Nat} (hag : fQ P t = some ag) (hz : qV P t = some n) (ha : aX a = some f) {o : Oper} (ho : o.op = .load t a) {fr : dV} {A : Act} {g i k n0 : Nat} {cs : List aJ} {c : CV} {H : Tr HO} (hG : Gl β) (hF : RF β fr A) (hp : f fr = some (.px g i k)) (hv : V g = some (.rw cs)) (hi : i < cs.length) (hl : loadP ag n k (cs.getD i cn0) = some c) :
    OpS P (execOp A.eval o) V β n0 c H n0 [] := by
  intro w hV _
  obtain ⟨b, hb, he⟩ := aW ha hG hF hp
  obtain ⟨b', rob, h1, h2, h3, _⟩ := hV.at_ g _ hv
  rw [hb] at h1
  obtain rfl := Option.some.inj h1
  obtain ⟨u, k1, k2⟩ := loadP_ok hag hz h3 h2 hi hl
  refine dZ (u := u) (w' := w) ?_ ⟨β, pK.refl _ _ _, k2, by rw [mJ]; exact hV⟩
  unfold execOp
  rw [ho]
  simp only [he, Instr.loadAt, Instr.sureAddr, Sem.run_bind, Sem.run_pure, Result.andThen_ok, k1]
theorem loadR'_ok {ag : Bool} {t : TypeId} {n k o : Nat} {l : List CV} {ls : List Value} {c : CV} {a : Nat} (hag : fQ P t = some ag) (hz : qV P t = some n) (hl : bJ β l ls) (hw : ∀ (j : Nat) (u : Value), ls[j]? = some u → w.cell? ⟨a, o + j, none⟩ = some u) (h : sK ag n k l = some c) : ∃ u, (loadVar t ⟨a, o + k, none⟩).run P w = .ok u w ∧ RV β c u := by
  unfold sK at h
  cases ag with
  | true =>
    simp only [] at h
    split at h
    · rename_i hb
      have hb := dK hb
      simp only [Option.some.injEq] at h
      subst h
      have hs : ((ls.drop k).take n).length = n := by rw [List.length_take, List.length_drop, hl.len]; omega
      have hrun := run_loadCells_list (P := P) w ⟨a, o + k, none⟩ ((ls.drop k).take n) (fun j v hj => by
        rw [bY]
        have hj' : j < n := by rw [← hs]; exact (List.getElem?_eq_some_iff.1 hj).1
        rw [List.getElem?_take_of_lt hj', List.getElem?_drop] at hj
        rw [Nat.add_assoc]
        exact hw _ _ hj)
      rw [hs] at hrun
      refine ⟨.agg ((ls.drop k).take n).toArray, ?_, ⟨_, rfl, ?_⟩⟩
      · simp [loadVar, iF hag, bP hz, hrun]
      · rw [List.toList_toArray]
        exact (hl.drop k).take n
    · simp at h
  | false =>
    simp only [] at h
    obtain ⟨u, q1, q2⟩ := hl.get h
    refine ⟨u, ?_, q2⟩
    simp only [loadVar, Sem.run_bind, iF hag, Result.andThen_ok, Bool.false_eq_true, if_false, run_load, hw k u q1]
theorem FzOk.cell {a : Nat} {us : List Value} (h : FzOk w a us) {j : Nat} {u : Value} (hj : us[j]? = some u) (hn : u ≠ .chan none) : w.cell? ⟨a, j, none⟩ = some u := h j u hj hn
theorem HV.fz (h : HV V β w) {a : Nat} {us : List Value} (hs : β.sx a us) : FzOk w a us := h.sxf a us hs w (fun _ _ => rfl)
theorem rowz_el {r : Row} {us : List Value} (h : RowZ β r us) {i : Nat} (hi : i < r.len) : ∃ ls, bJ β (r.elV i) ls ∧ ∀ (j : Nat) (u : Value), ls[j]? = some u → us[r.s * i + r.b + j]? = some u := by
  cases r with
  | c cs =>
    have hc : cs[i]? = some (cs.getD i cn0) := by rw [List.getD_eq_getElem?_getD, List.getElem?_eq_getElem hi]; rfl
    obtain ⟨k1, s, k2, k3⟩ := h.2 i _ hc
    exact ⟨_, coinV_rv k1 k2, k3⟩
  | i k l =>
    have hc : l[i]? = some (l.getD i 0) := by rw [List.getD_eq_getElem?_getD, List.getElem?_eq_getElem hi]; rfl
    obtain ⟨k1, k2⟩ := h.2 i _ hc
    refine ⟨[.int k (l.getD i 0)], ⟨_, _, rfl, ⟨rfl, fun _ => k1⟩, rfl⟩, fun j u hj => ?_⟩
    cases j with
    | zero =>
      obtain rfl := Option.some.inj hj
      show us[1 * i + 0 + 0]? = _
      rw [Nat.one_mul]
      exact k2
    | succ j => simp at hj
  | j k b l =>
    have hc : l[i]? = some (l.getD i 0) := by rw [List.getD_eq_getElem?_getD, List.getElem?_eq_getElem hi]; rfl
    obtain ⟨k1, k2⟩ := h i _ hc
    refine ⟨[.int k (l.getD i 0)], ⟨_, _, rfl, ⟨rfl, fun _ => k1⟩, rfl⟩, fun j u hj => ?_⟩
    cases j with
    | zero =>
      obtain rfl := Option.some.inj hj
      show us[1 * i + b + 0]? = _
      rw [Nat.one_mul, Nat.add_zero, Nat.add_comm]
      exact k2
    | succ j => simp at hj
theorem loadfp_ok {t : TypeId} {a : Operand} {f : yZ} {ag : Bool} {n : Nat} (hag : fQ P t = some ag) (hz : qV P t = some n) (ha : aX a = some f) {o : Oper} (ho : o.op = .load t a) {fr : dV} {A : Act} {l : List CV} {off n0 : Nat} {c : CV} {H : Tr HO} (hG : Gl β) (hF : RF β fr A) (hp : f fr = some (.fp l off)) (hl : sK ag n off l = some c) :
    OpS P (execOp A.eval o) V β n0 c H n0 [] := by
  intro w hV _
  obtain ⟨b, us, he, h1, h2⟩ := aW ha hG hF hp
  have hz' := hV.fz h1
  obtain ⟨u, k1, k2⟩ := loadR'_ok (o := 0) (a := b) (w := w) hag hz h2 (fun j u hj => by
    rw [Nat.zero_add]
    exact hz'.cell (by rw [List.getElem?_take] at hj; split at hj; exact hj; simp at hj) (h2.nch hj)) hl
  rw [Nat.zero_add] at k1
  refine dZ (u := u) (w' := w) ?_ ⟨β, pK.refl _ _ _, k2, by rw [mJ]; exact hV⟩
  unfold execOp
  rw [ho]
  simp only [he, Instr.loadAt, Instr.sureAddr, Sem.run_bind, Sem.run_pure, Result.andThen_ok, k1]
theorem loadfq_ok {t : TypeId} {a : Operand} {f : yZ} {ag : Bool} {n : Nat} (hag : fQ P t = some ag) (hz : qV P t = some n) (ha : aX a = some f) {o : Oper} (ho : o.op = .load t a) {fr : dV} {A : Act} {r : Row} {i j n0 : Nat} {c : CV} {H : Tr HO} (hG : Gl β) (hF : RF β fr A) (hp : f fr = some (.fq r i j)) (hl : sK ag n j (r.elV i) = some c) :
    OpS P (execOp A.eval o) V β n0 c H n0 [] := by
  intro w hV _
  obtain ⟨hi, b, us, he, h1, h2⟩ := aW ha hG hF hp
  have hz' := hV.fz h1
  obtain ⟨ls, q1, q2⟩ := rowz_el h2 hi
  obtain ⟨u, k1, k2⟩ := loadR'_ok (o := r.s * i + r.b) (a := b) (w := w) hag hz q1 (fun j u hj => hz'.cell (q2 j u hj) (q1.nch hj)) hl
  rw [Nat.add_right_comm] at k1
  refine dZ (u := u) (w' := w) ?_ ⟨β, pK.refl _ _ _, k2, by rw [mJ]; exact hV⟩
  unfold execOp
  rw [ho]
  simp only [he, Instr.loadAt, Instr.sureAddr, Sem.run_bind, Sem.run_pure, Result.andThen_ok, k1]
theorem loadfx_ok {t : TypeId} {a : Operand} {f : yZ} {ag : Bool} {n : Nat} (hag : fQ P t = some ag) (hz : qV P t = some n) (ha : aX a = some f) {o : Oper} (ho : o.op = .load t a) {fr : dV} {A : Act} {l : List CV} {off m s i j n0 : Nat} {c : CV} {H : Tr HO} (hG : Gl β) (hF : RF β fr A) (hp : f fr = some (.fx l off m s (i : Int) j)) (hl : sK ag n (off + i * s + j) l = some c) :
    OpS P (execOp A.eval o) V β n0 c H n0 [] := by
  intro w hV _
  obtain ⟨_, _, b, us, he, h1, h2⟩ := aW ha hG hF hp
  have hz' := hV.fz h1
  obtain ⟨u, k1, k2⟩ := loadR'_ok (o := 0) (a := b) (w := w) hag hz h2 (fun j u hj => by
    rw [Nat.zero_add]
    exact hz'.cell (by rw [List.getElem?_take] at hj; split at hj; exact hj; simp at hj) (h2.nch hj)) hl
  rw [Nat.zero_add] at k1
  refine dZ (u := u) (w' := w) ?_ ⟨β, pK.refl _ _ _, k2, by rw [mJ]; exact hV⟩
  unfold execOp
  rw [ho]
  simp only [he, Instr.loadAt, Instr.sureAddr, Sem.run_bind, Sem.run_pure, Result.andThen_ok, Int.toNat_natCast, k1]
theorem load_ok {t : TypeId} {a : Operand} {f : yZ} {ag : Bool} {n : Nat} (hag : fQ P t = some ag) (hz : qV P t = some n) (ha : aX a = some f) {o : Oper} (ho : o.op = .load t a) {fr : dV} {A : Act} {g off n0 : Nat} {ob : HO} {c : CV} {H : Tr HO} (hG : Gl β) (hF : RF β fr A) (hp : f fr = some (.ptr g off)) (hv : V g = some ob) (hl : yE ag n off ob = some c) :
    OpS P (execOp A.eval o) V β n0 c H n0 [] := by
  intro w hV _
  obtain ⟨b, hb, he⟩ := aW ha hG hF hp
  obtain ⟨b', rob, h1, h2, h3, _⟩ := hV.at_ g ob hv
  rw [hb] at h1
  obtain rfl := Option.some.inj h1
  obtain ⟨u, k1, k2⟩ := loadF_ok hag hz h3 h2 hl
  refine dZ (u := u) (w' := w) ?_ ⟨β, pK.refl _ _ _, k2, by rw [mJ]; exact hV⟩
  unfold execOp
  rw [ho]
  simp only [he, Instr.loadAt, Instr.sureAddr, Sem.run_bind, Sem.run_pure, Result.andThen_ok, k1]
end
section
variable {P : Program} {β : Names} {V : Acc} {w : World}
structure nR (ac : Acc) (H : Tr HO) (nx : Nat) (out : Out) : Prop where
  le : nx ≤ out.nx
  keep : ∀ n, ¬ (nx ≤ n ∧ n < out.nx) → n ∉ out.puts → out.H.get n = H.get n
  puts : ∀ p, p ∈ out.puts → ac p ≠ none
def vV (P : Program) (s : Sem Next) (ac : Acc) (β : Names) (H : Tr HO) (nx : Nat) (out : Out) : Prop := OpS P s ac β nx out.v out.H out.nx out.puts ∧ nR ac H nx out
theorem plain_one {c : CV} {u : Value} (h : RV β c u) (hp : nC c = true) : u.oneCell' = true := by
  cases c <;> simp only [nC, reduceCtorEq, Bool.false_eq_true] at hp <;> simp only [RV] at h
  all_goals first
    | (obtain ⟨_, ⟨_, _, _, rfl⟩, _⟩ := h; rfl)
    | (obtain ⟨_, _, rfl⟩ := h; rfl)
    | (rcases h with ⟨_, _, ⟨_, _, rfl, _⟩ | ⟨_, _, _, _, rfl, _⟩⟩ <;> rfl)
    | (obtain ⟨_, _, _, _, rfl, _⟩ := h; rfl)
    | (obtain ⟨_, _, rfl, _⟩ := h; rfl)
    | (obtain ⟨_, _, _, rfl, _⟩ := h; rfl)
    | (obtain ⟨rfl, _⟩ := h; rfl)
    | (subst h; rfl)
    | (obtain ⟨a, _, rfl⟩ := h; rfl)
    | (obtain ⟨a, c', _, rfl, _⟩ := h; rfl)
    | (obtain ⟨a, c', _, _, rfl, _⟩ := h; rfl)
    | (obtain ⟨a, rfl, _⟩ := h; rfl)
theorem all_one {cs : List CV} {us : List Value} (h : bJ β cs us) (hp : cs.all nC = true) : ∀ v ∈ us, v.oneCell' = true := by
  intro v hv
  obtain ⟨i, hi⟩ := List.mem_iff_getElem?.1 hv
  have hl : i < cs.length := by rw [← h.len]; exact (List.getElem?_eq_some_iff.1 hi).1
  obtain ⟨u, k1, k2⟩ := h.get (List.getElem?_eq_getElem hl)
  rw [k1] at hi
  obtain rfl := Option.some.inj hi
  exact plain_one k2 (List.all_eq_true.1 hp _ (List.getElem_mem hl))
theorem lN (P : Program) (g o : Nat) (t : TypeId) (fr : Nat × Nat) : ∀ (vs : List Value) (i : Nat) (cur : Array Value) (w : World), w.heap[g]? = some (.cells cur t fr) → (fr.1 = fr.2 ∨ cur.size ≤ fr.1) → o + i + vs.length ≤ cur.size → (∀ v ∈ vs, v.oneCell' = true) →
    (storeCells ⟨g, o, none⟩ vs i).run P w = .ok () (w.setRow g (cur.toList.take (o + i) ++ vs ++ cur.toList.drop (o + i + vs.length)).toArray)
  | [], i, cur, w, hg, _, _, _ => by
    simp only [storeCells, List.append_nil, List.length_nil, Nat.add_zero, List.take_append_drop, Array.toArray_toList]
    rw [setRow_self w g cur t fr hg]
    rfl
  | v :: rest, i, cur, w, hg, hz, hl, h1 => by
    have hi : o + i < cur.size := by simp at hl; omega
    have hcell : w.cell? ⟨g, o + i, none⟩ = some cur[o + i] := by simp [World.cell?, hg, hi]
    have hfro : w.frozen? ⟨g, o + i, none⟩ = false := by
      unfold World.frozen?
      simp only [hg, Bool.and_eq_false_iff, decide_eq_false_iff_not]
      omega
    have hst : (store ((⟨g, o, none⟩ : Addr).add i) v).run P w = .ok () (w.setRow g (cur.setIfInBounds (o + i) v)) := by
      rw [bY, run_store P w _ v _ (h1 v (by simp)), hcell]
      simp [hfro, setCell_eq_setRow w g (o + i) cur t fr v hg]
    have ih := lN P g o t fr rest (i + 1) (cur.setIfInBounds (o + i) v) (w.setRow g (cur.setIfInBounds (o + i) v)) (setRow_heap w g cur _ t _ hg) (by simpa using hz) (by simp at hl ⊢; omega) (fun x hx => h1 x (by simp [hx]))
    simp only [storeCells, Sem.run_bind, hst, Result.andThen_ok, ih, setRow_setRow]
    congr 3
    have hsz : cur.toList.length = cur.size := Array.length_toList
    have hs2 : (cur.setIfInBounds (o + i) v).toList.length = cur.size := by rw [Array.length_toList, Array.size_setIfInBounds]
    simp only [List.length_cons] at hl
    apply List.ext_getElem?
    intro j
    rw [uA _ _ _ _ (by omega)]
    have e := uA cur.toList (v :: rest) (o + i) j (by simp only [List.length_cons]; omega)
    rw [e, Array.toList_setIfInBounds, List.getElem?_set]
    simp only [List.length_cons]
    by_cases h2 : j < o + i
    · rw [if_pos (by omega), if_neg (by omega), if_pos h2]
    · rw [if_neg h2]
      by_cases h3 : j = o + i
      · subst h3
        rw [if_pos (by omega), if_pos rfl, if_pos (by omega), if_pos (by omega), Nat.sub_self]; rfl
      · rw [if_neg (by omega)]
        by_cases h4 : j < o + i + (rest.length + 1)
        · rw [if_pos (by omega), if_pos h4]
          obtain ⟨k, rfl⟩ : ∃ k, j = o + i + k + 1 := ⟨j - (o + i) - 1, by omega⟩
          rw [show o + i + k + 1 - (o + (i + 1)) = k by omega, show o + i + k + 1 - (o + i) = k + 1 by omega]; rfl
        · rw [if_neg (by omega), if_neg (by omega), if_neg h4]
theorem lY {g k : Nat} {c : Array Value} (h : k ≠ g) : (w.setRow g c).heap[k]? = w.heap[k]? := by
  unfold World.setRow
  simp only [Array.getElem?_modify]
  rw [if_neg (fun e => h e.symm)]
theorem setRow_size {g : Nat} {c : Array Value} : (w.setRow g c).heap.size = w.heap.size := by unfold World.setRow; simp
theorem ro_spl {c x : List CV} {e : TypeId} {r : Bool} {us : Array Value} {lo hi o : Nat} {vs : List Value} (h : RO β (.cells c e r) (.cells us e (lo, hi))) (hx : bJ β x vs) (hb : o + x.length ≤ c.length) : RO β (.cells (spl c o x) e r) (.cells (us.toList.take o ++ vs ++ us.toList.drop (o + vs.length)).toArray e (lo, hi)) := by
  obtain ⟨us', lo', hi', he, h1, h2, h3, h4⟩ := h
  simp only [Obj.cells.injEq, Prod.mk.injEq, true_and] at he
  obtain ⟨rfl, rfl, rfl⟩ := he
  have hl := hx.len
  have hsz : us.toList.length = us.size := Array.length_toList
  have s1 : (us.toList.take o ++ vs ++ us.toList.drop (o + vs.length)).length = us.size := by rw [lK _ _ _ (by omega), hsz]
  have s2 : (spl c o x).length = c.length := lK _ _ _ hb
  refine ⟨_, lo, hi, rfl, by rw [List.size_toArray, s1, s2]; exact h1, fun hr => by rw [List.size_toArray, s1, s2]; exact h2 hr, by rw [List.size_toArray, s1]; exact h3, fun i y hy => ?_⟩
  unfold spl at hy
  rw [uA _ _ _ _ hb] at hy
  rw [List.getElem?_toArray, uA _ _ _ _ (by omega), hl]
  by_cases a1 : i < o
  · rw [if_pos a1] at hy ⊢
    rw [Array.getElem?_toList]; exact h4 i y hy
  · rw [if_neg a1] at hy ⊢
    by_cases a2 : i < o + x.length
    · rw [if_pos a2] at hy ⊢
      exact hx.get hy
    · rw [if_neg a2] at hy ⊢
      rw [Array.getElem?_toList]; exact h4 i y hy
theorem yX {s : Sem Next} {H : Tr HO} {nx g : Nat} {o o' : HO} {v : CV} (hv : V g = some o) (hlt : g < nx) (hr : ∀ w a rob, β.ad g = some a → w.heap[a]? = some rob → RO β o rob → β.sz g = iQ rob → HV V β w → ∃ u w' rob', (s.run P w = .ok (.value u) w' ∨ (s.run P w = .ok .skip w' ∧ u = undef)) ∧ w'.heap[a]? = some rob' ∧ RO β o' rob' ∧ iQ rob' = iQ rob ∧ (∀ k, k ≠ a → w'.heap[k]? = w.heap[k]?) ∧ w'.heap.size = w.heap.size ∧ w'.os = w.os ∧ w'.tape = w.tape ∧ w'.output = w.output ∧ RV β v u) : vV P s V β H nx ⟨v, H.set g o', nx, [g]⟩ := by
  refine ⟨fun w hV hf => ?_, ⟨Nat.le_refl _, fun n _ hn => ?_, fun p hp => ?_⟩⟩
  · obtain ⟨a, rob, h1, h2, h3, h4⟩ := hV.at_ g o hv
    obtain ⟨u, w', rob', k1, k2, k3, kz, k4, k5, k6, k7, k8, k9⟩ := hr w a rob h1 h2 h3 h4 hV
    have fin : ∃ β', pK β β' nx nx [g] w w' ∧ RV β' v u ∧ HV (nS V (H.set g o') nx nx [g]) β' w' := ⟨β, trPut h1 k5 k4 k6 k7 k8, k9, hV.put hv h1 (by rw [Tr.get_set, if_pos rfl]) k4 k2 k3 (h4.trans kz.symm)⟩
    rcases k1 with k1 | ⟨k1, rfl⟩
    · exact dZ k1 fin
    · exact opw_skip k1 fin
  · rw [Tr.get_set, if_neg]
    rintro rfl
    simp at hn
  · simp only [List.mem_singleton] at hp
    subst hp; rw [hv]; simp
theorem fP {s : Sem Next} {H : Tr HO} {nx : Nat} {v : CV} (hr : ∀ w, HV V β w → ∃ u, s.run P w = .ok (.value u) w ∧ RV β v u) : vV P s V β H nx ⟨v, H, nx, []⟩ :=
  ⟨fun w hV _ => by
    obtain ⟨u, h1, h2⟩ := hr w hV
    exact dZ h1 ⟨β, pK.refl _ _ _, h2, by rw [mJ]; exact hV⟩, ⟨Nat.le_refl _, fun _ _ _ => rfl, fun p hp => by simp at hp⟩⟩
theorem oU {s : Sem Next} {H : Tr HO} {nx : Nat} {v : CV} {o : HO} (hr : ∀ w, HV V β w → ∃ u w' rob, s.run P w = .ok (.value u) w' ∧ w'.heap = w.heap.push rob ∧ w'.os = w.os ∧ w'.tape = w.tape ∧ w'.output = w.output ∧ ∀ β', Sub β β' → β'.ad nx = some w.heap.size → β'.sz nx = iQ rob → RO β' o rob ∧ RV β' v u) : vV P s V β H nx ⟨v, H.set nx o, nx + 1, []⟩ := by
  refine ⟨fun w hV hf => ?_, ⟨by simp, fun n hn _ => ?_, fun p hp => by simp at hp⟩⟩
  · have hn : β.ad nx = none := hf nx (Nat.le_refl _) (by simp)
    obtain ⟨u, w', rob, k1, k2, k4, k5, k6, k7⟩ := hr w hV
    obtain ⟨k3, k8⟩ := k7 (jQ β nx w.heap.size (iQ rob)) (iK hn) (dI _ _ _ _) (mX _ _ _ _)
    exact dZ k1 ⟨_, trPush k2 k4 k5 k6, k8, hV.push hn (by rw [Tr.get_set, if_pos rfl]) k2 k3⟩
  · rw [Tr.get_set, if_neg]
    rintro rfl
    exact hn ⟨Nat.le_refl _, by simp⟩
theorem m1_ok {F : yZ → MF} {x : Operand} {f : MF} (h : m1 F (aX x) = some f) : ∃ a, aX x = some a ∧ f = F a := by
  cases ha : aX x with
  | none => rw [ha] at h; simp [m1] at h
  | some a => rw [ha] at h; simp only [m1, Option.some.injEq] at h; exact ⟨a, rfl, h.symm⟩
theorem m2_ok {F : yZ → yZ → MF} {x y : Operand} {f : MF} (h : m2 F (aX x) (aX y) = some f) : ∃ a b, aX x = some a ∧ aX y = some b ∧ f = F a b := by
  cases ha : aX x with
  | none => rw [ha] at h; simp [m2] at h
  | some a =>
    cases hb : aX y with
    | none => rw [ha, hb] at h; simp [m2] at h
    | some b => rw [ha, hb] at h; simp only [m2, Option.some.injEq] at h; exact ⟨a, b, rfl, rfl, h.symm⟩
theorem mSt_ok {t : TypeId} {n : Nat} {a x : Operand} {f g : yZ} (hz : qV P t = some n) (ha : aX a = some f) (hx : aX x = some g) {o : Oper} (ho : o.op = .store t a x) {fr : dV} {A : Act} {H : Tr HO} {nx : Nat} {out : Out} (hG : Gl β) (hF : RF β fr A) (hlt : ∀ n, V n ≠ none → n < nx) (h : mSt n f g fr V H nx = some out) : vV P (execOp A.eval o) V β H nx out := by
  unfold mSt at h
  split at h
  · rename_i gg off v h1 h2
    split at h
    · rename_i ob hob
      split at h
      · rename_i ob' hs
        simp only [Option.some.injEq] at h
        subst h
        unfold storeF at hs
        split at hs
        · rename_i c e r
          split at hs
          · rename_i hb
            simp only [Bool.and_eq_true] at hb
            have b1 := Nat.eq_of_beq_eq_true hb.1.1
            have b2 := dK hb.1.2
            simp only [Option.some.injEq] at hs
            subst hs
            refine yX hob (hlt _ (by rw [hob]; simp)) (fun w b rob hb1 hw hr hsz0 hV => ?_)
            obtain ⟨b', hb', he⟩ := aW ha hG hF h1
            rw [hb1] at hb'
            obtain rfl := Option.some.inj hb'
            have hvv := bJ.cells (aW hx hG hF h2)
            have hr0 := hr
            obtain ⟨us, lo, hi, rfl, q1, q2, q3, q4⟩ := hr
            have hlen : (A.eval x).cells.toList.length = n := by rw [hvv.len, b1]
            have hrun := lN P b off e (lo, hi) (A.eval x).cells.toList 0 us w hw q3 (by rw [hlen]; omega) (all_one hvv hb.2)
            refine ⟨undef, _, _, Or.inr ⟨?_, rfl⟩, setRow_heap w b us _ e (lo, hi) hw, ro_spl hr0 hvv (by omega), by show Array.size _ = Array.size _; rw [List.size_toArray, lK _ _ _ (by have hul : us.toList.length = us.size := Array.length_toList; omega), Array.length_toList], fun k hk => lY hk, setRow_size, rfl, rfl, rfl, ⟨#[], rfl, rfl⟩⟩
            unfold execOp
            rw [ho]
            have hsz : ¬ ((A.eval x).cells.size ≠ n) := by rw [← Array.length_toList, hlen]; simp
            simp only [he, Instr.storeAt, Instr.sureAddr, storeVar, Sem.run_bind, Sem.run_pure, Result.andThen_ok, bP hz, if_neg hsz, hrun, Nat.add_zero]
          · simp at hs
        · simp at hs
      · simp at h
    · simp at h
  · simp at h
end
section
variable {P : Program} {β : Names} {V : Acc} {w : World}
def lH (us : Array Value) (o n : Nat) : List Value := (us.toList.drop o).take n
theorem eY {us : Array Value} {o n : Nat} (h : o + n ≤ us.size) : (lH us o n).length = n := by
  unfold lH
  rw [List.length_take, List.length_drop, Array.length_toList]; omega
theorem uS {c : List CV} {us : Array Value} (h4 : ∀ (i : Nat) (x : CV), c[i]? = some x → ∃ u, us[i]? = some u ∧ RV β x u) {o n : Nat} (h1 : o + n ≤ c.length) (h2 : c.length ≤ us.size) : bJ β (cut c o n) (lH us o n) := by
  refine bJ.of_get (by rw [jH h1, eY (by omega)]) (fun i x hx => ?_)
  have hi : i < n := by
    have := (List.getElem?_eq_some_iff.1 hx).1
    rw [jH h1] at this; exact this
  unfold cut at hx
  rw [List.getElem?_take_of_lt hi, List.getElem?_drop] at hx
  obtain ⟨u, k1, k2⟩ := h4 _ x hx
  exact ⟨u, by unfold lH; rw [List.getElem?_take_of_lt hi, List.getElem?_drop, Array.getElem?_toList]; exact k1, k2⟩
theorem loadR {a o n : Nat} {us : Array Value} {e : TypeId} {fr : Nat × Nat} (hw : w.heap[a]? = some (.cells us e fr)) (h : o + n ≤ us.size) : (loadCells ⟨a, o, none⟩ n).run P w = .ok (lH us o n).toArray w := by
  have hs := eY h
  have hrun := run_loadCells_list (P := P) w ⟨a, o, none⟩ (lH us o n) (fun j v hj => by
    rw [bY]
    have hj' : j < n := by rw [← hs]; exact (List.getElem?_eq_some_iff.1 hj).1
    unfold lH at hj
    rw [List.getElem?_take_of_lt hj', List.getElem?_drop, Array.getElem?_toList] at hj
    unfold World.cell?
    rw [hw]
    simpa using hj)
  rw [hs] at hrun
  exact hrun
theorem fz_load {a o n m : Nat} {us : List Value} (h : FzOk w a us) (hn : ∀ (j : Nat) (u : Value), (us.take m)[j]? = some u → u ≠ .chan none) {w' : World} (hw : w'.heap = w.heap) (hs : o + n ≤ us.toArray.size) (hm : o + n ≤ m) : (loadCells ⟨a, o, none⟩ n).run P w' = .ok (lH us.toArray o n).toArray w' := by
  have hl := eY hs
  have hrun := run_loadCells_list (P := P) w' ⟨a, o, none⟩ (lH us.toArray o n) (fun j v hj => by
    rw [bY]
    have hj' : j < n := by rw [← hl]; exact (List.getElem?_eq_some_iff.1 hj).1
    unfold lH at hj
    rw [List.getElem?_take_of_lt hj', List.getElem?_drop] at hj
    have hj : us[o + j]? = some v := hj
    have := h (o + j) v hj (hn (o + j) v (by rw [List.getElem?_take, if_pos (by omega)]; exact hj))
    unfold World.cell? at *
    rw [hw]
    exact this)
  rw [hl] at hrun
  exact hrun
theorem fz_first {s k : Nat} {l : List CV} {o m : Nat} {u : Value} (hx : RV β (.fz l o m) u) (hb : o + k * s ≤ l.length) (hk : k ≤ m) (hV : HV V β w) : ∃ us, us.length = k * s ∧ bJ β (cut l o (k * s)) us ∧ ∀ w' : World, w'.heap = w.heap → (Builtin.firstCells s k u).run P w' = .ok us.toArray w' := by
  obtain ⟨a, off, c', us, rfl, h1, h2, h3, h4⟩ := hx
  have hfz := hV.fz h3
  have hl := h4.len
  rw [List.length_take] at hl
  by_cases h0 : k = 0
  · subst h0
    refine ⟨[], by simp, by simp [cut]; rfl, fun w' _ => ?_⟩
    show (loadCells ⟨a, off, none⟩ (0 * s)).run P w' = _
    rw [Nat.zero_mul]
    exact run_loadCells_list (P := P) w' ⟨a, off, none⟩ [] (fun j v hj => by simp at hj)
  · obtain rfl : off = o := h2.resolve_left (by omega)
    have hsz : off + k * s ≤ us.toArray.size := by rw [List.size_toArray]; omega
    refine ⟨lH us.toArray off (k * s), eY hsz, ?_, fun w' hw' => fz_load hfz (fun j u hj => h4.nch hj) hw' hsz (by omega)⟩
    refine uS (fun i x hx => ?_) hb (by rw [List.size_toArray]; omega)
    obtain ⟨v, k1, k2⟩ := h4.get hx
    exact ⟨v, by rw [List.getElem?_toArray]; rw [List.getElem?_take] at k1; split at k1; exact k1; simp at k1, k2⟩
theorem yA {s : Nat} (b : Option Addr) (c : Nat) (w' : World) : (Builtin.firstCells s 0 (.slice b 0 c)).run P w' = .ok ([] : List Value).toArray w' := by
  cases b with
  | none => rfl
  | some a =>
    show (loadCells a (0 * s)).run P w' = _
    rw [Nat.zero_mul]
    exact run_loadCells_list (P := P) w' a [] (fun j v hj => by simp at hj)
theorem src_ok {s : Nat} {tx e' : TypeId} (hk : P.underlying tx = some (.slice e')) {x : CV} {u : Value} {n : Nat} {new : List CV} (hx : RV β x u) (hn : rW x = some n) (hf : kF V (n * s) x = some new) (hp : new.all nC = true) (hV : HV V β w) : ∃ news, Src P s tx u n news w ∧ bJ β new news := by
  cases x <;> simp only [rW, reduceCtorEq] at hn
  · rename_i l o m
    obtain rfl := Option.some.inj hn
    unfold kF at hf
    simp only [] at hf
    split at hf
    · rename_i hb
      obtain rfl := Option.some.inj hf
      obtain ⟨us, k1, k2, k3⟩ := fz_first (P := P) (s := s) hx (dK hb) (Nat.le_refl m) hV
      obtain ⟨a, off, c', us', rfl, _⟩ := hx
      exact ⟨us, ⟨Or.inl ⟨e', hk⟩, fun w' => rfl, k3 w rfl, k3 w.drew rfl, k1, all_one k2 hp⟩, k2⟩
    · simp at hf
  · obtain rfl := Option.some.inj hn
    simp only [kF, Nat.zero_mul, Option.some.injEq] at hf
    subst hf
    obtain ⟨b, c, rfl⟩ := hx
    exact ⟨[], ⟨Or.inl ⟨e', hk⟩, fun w' => rfl, yA b c w, yA b c w.drew, by simp, by simp⟩, rfl⟩
  · rename_i g o m c lo
    obtain rfl := Option.some.inj hn
    unfold kF at hf
    simp only [] at hf
    split at hf
    · rename_i cs e r hg
      split at hf
      · rename_i hb
        have hb := dK hb
        obtain rfl := Option.some.inj hf
        obtain ⟨a, c', ha, rfl, _⟩ := hx
        obtain ⟨a', rob, h1, h2, h3, _⟩ := hV.at_ g _ hg
        rw [ha] at h1
        obtain rfl := Option.some.inj h1
        obtain ⟨us, lo', hi', rfl, q1, q2, q3, q4⟩ := h3
        have rn := uS q4 hb q1
        have hl : ∀ w' : World, w'.heap = w.heap → (Builtin.firstCells s m (.slice (some ⟨a, o, none⟩) m c')).run P w' = .ok (lH us o (m * s)).toArray w' := fun w' hw' => loadR (by rw [hw']; exact h2) (by omega)
        refine ⟨lH us o (m * s), ⟨Or.inl ⟨e', hk⟩, fun w' => rfl, hl w rfl, hl w.drew rfl, eY (by omega), all_one rn hp⟩, rn⟩
      · simp at hf
    · simp at hf
  · obtain rfl := Option.some.inj hn
    simp only [kF, Nat.zero_mul, Option.some.injEq] at hf
    subst hf
    simp only [RV] at hx
    have rhx := hx
    try replace hx := hx.1
    subst hx
    exact ⟨[], ⟨Or.inl ⟨e', hk⟩, fun w' => rfl, rfl, rfl, by simp, by simp⟩, rfl⟩
theorem ro_room {c : List CV} {e : TypeId} {us : Array Value} (h : ∀ (i : Nat) (x : CV), c[i]? = some x → ∃ u, us[i]? = some u ∧ RV β x u) (hl : c.length ≤ us.size) : RO β (.cells c e true) (.cells us e (0, 0)) :=
  ⟨us, 0, 0, rfl, hl, fun e => by simp at e, Or.inl rfl, h⟩
theorem ro_app {a b : List CV} {x y : List Value} {e : TypeId} (ha : bJ β a x) (hb : bJ β b y) (z : Array Value) : RO β (.cells (a ++ b) e true) (.cells ((x ++ y).toArray ++ z) e (0, 0)) := by
  have h := ha.append hb
  refine ro_room (fun i v hv => ?_) (by rw [Array.size_append, List.size_toArray, h.len]; omega)
  obtain ⟨u, k1, k2⟩ := h.get hv
  refine ⟨u, ?_, k2⟩
  have hi : i < (x ++ y).length := (List.getElem?_eq_some_iff.1 k1).1
  rw [Array.getElem?_append_left (by rw [List.size_toArray]; exact hi), List.getElem?_toArray]
  exact k1
theorem pY {t tx ty e : TypeId} {i : TypeInfo} {z : Value} (ht : P.underlying t = some (.slice e)) (hi : P.info? e = some i) (hz : i.zero = some z) {base : Option Addr} {m c n : Nat} {olds news : List Value} {u : Value}
    (hold : (Builtin.firstCells i.size m (.slice base m c)).run P w.drew = .ok olds.toArray w.drew) (hs : Src P i.size tx u n news w) (hg : c < m + n) (h1 : (m + n) * i.bytes ≤ 1099511627776) (h2 : m + n ≤ 1099511627776) :
    ∃ k w', (Builtin.append_ #[t, tx] ty #[.slice base m c, u]).run P w = .ok (.slice (some ⟨w.heap.size, 0, none⟩) (m + n) (m + n + k)) w' ∧ w'.heap = w.heap.push (.cells ((olds ++ news).toArray ++ Builtin.zeroCells z.cells k) e (0, 0)) ∧ w'.os = w.os ∧ w'.tape = w.tape ∧ w'.output = w.output := by
  have hge := grownCap_ge w (m + n) c e
  have hrun := run_append_grow_src (P := P) w t tx ty e i z ht hi hz base m c olds hold u n news hs hg (by omega) (growslice_fits hg (by omega))
  refine ⟨grownCap w (m + n) c e - (m + n), w.drew.alloc (.cells ((olds ++ news).toArray ++ Builtin.zeroCells z.cells (grownCap w (m + n) c e - (m + n))) e), ?_, ?_⟩
  · rw [hrun, show m + n + (grownCap w (m + n) c e - (m + n)) = grownCap w (m + n) c e by omega]
  · exact ⟨rfl, rfl, rfl, rfl⟩
theorem stay_run {t tx ty e : TypeId} {i : TypeInfo} (ht : P.underlying t = some (.slice e)) (hi : P.info? e = some i) {a o m c n : Nat} {us : Array Value} {el : TypeId} {fr : Nat × Nat} {news : List Value} {u : Value}
    (hs : Src P i.size tx u n news w) (hr : m + n ≤ c) (hw : w.heap[a]? = some (.cells us el fr)) (hz : fr.1 = fr.2 ∨ us.size ≤ fr.1) (hb : o + (m + n) * i.size ≤ us.size) :
    (Builtin.append_ #[t, tx] ty #[.slice (some ⟨a, o, none⟩) m c, u]).run P w = .ok (.slice (some ⟨a, o, none⟩) (m + n) c) (w.setRow a (us.toList.take (o + m * i.size) ++ news ++ us.toList.drop (o + m * i.size + news.length)).toArray) := by
  have hst := lN P a (o + m * i.size) el fr news 0 us w hw hz (by rw [hs.newsLen]; rw [Nat.add_mul] at hb; omega) hs.one
  simp only [Nat.add_zero] at hst
  rcases hs.kind with ⟨e', hk⟩ | hk <;> simp [Builtin.append_, aF ht, aF hk, sizeOf, typeInfo, hi, hs.len, hr, hs.cells, bY, hst]
theorem stay_nil {t tx ty e : TypeId} {i : TypeInfo} (ht : P.underlying t = some (.slice e)) (hi : P.info? e = some i) {news : List Value} {u : Value} (hs : Src P i.size tx u 0 news w) : (Builtin.append_ #[t, tx] ty #[.slice none 0 0, u]).run P w = .ok (.slice none 0 0) w := by
  rcases hs.kind with ⟨e', hk⟩ | hk <;> simp [Builtin.append_, aF ht, aF hk, sizeOf, typeInfo, hi, hs.len, hs.cells]
end
section
variable {P : Program} {β : Names} {V : Acc} {w : World}
theorem HV.move (h : HV V β w) {H : Tr HO} {n g a a' : Nat} {o o' : HO} {rob : Obj} {w' : World} (hf : β.ad n = none) (hn : H.get n = some o') (hg : H.get g = none) (hv : V g = some o) (hb : β.ad g = some a) (ha : a' = a ∨ w.heap.size ≤ a') (hw : ∀ k, k < w.heap.size → k ≠ a' → w'.heap[k]? = w.heap[k]?) (hr : w'.heap[a']? = some rob) (ho : RO (jQ β n a' (iQ rob)) o' rob) : HV (nS V H n (n + 1) [g]) (jQ β n a' (iQ rob)) w' := by
  have gn : g ≠ n := by rintro rfl; rw [hf] at hb; simp at hb
  have av : ∀ m, nS V H n (n + 1) [g] m = if m = n then some o' else if m = g then none else V m := by
    intro m
    unfold nS
    by_cases hm : m = n
    · subst hm; rw [if_pos (by simp), if_pos rfl, hn]
    · rw [if_neg hm]
      by_cases hg' : m = g
      · subst hg'; rw [if_pos (by simp), if_pos rfl, hg]
      · rw [if_neg (by simp [hg']; omega), if_neg hg']
  have live : ∀ m b, m ≠ n → m ≠ g → V m ≠ none → β.ad m = some b → b < w.heap.size ∧ b ≠ a' := by
    intro m b h1 h2 h3 h4
    have hlt := h.lt h3 h4
    refine ⟨hlt, ?_⟩
    rcases ha with rfl | ha
    · rintro rfl
      exact h2 (h.inj m g _ h3 (by rw [hv]; simp) h4 hb)
    · omega
  have fpne : ∀ b, β.fp b → b ≠ a' := by
    intro b hb' e
    rcases ha with rfl | ha
    · exact (h.fpa b hb').2 g (by rw [hv]; simp) (by rw [e]; exact hb)
    · have := (h.fpa b hb').1; omega
  have fpe : ∀ b, β.fp b → w'.heap[b]? = w.heap[b]? := fun b hb' => hw b (h.fpa b hb').1 (fpne b hb')
  have fpq : ∀ b, β.fp b → ∀ m, nS V H n (n + 1) [g] m ≠ none → (jQ β n a' (iQ rob)).ad m ≠ some b := by
    intro b hb' m hm hma
    rw [av] at hm
    by_cases e : m = n
    · subst e
      rw [dI] at hma
      exact fpne b hb' (Option.some.inj hma).symm
    · rw [if_neg e] at hm
      rw [dL _ _ _ e] at hma
      by_cases e2 : m = g
      · rw [if_pos e2] at hm; simp at hm
      · rw [if_neg e2] at hm
        exact (h.fpa b hb').2 m hm hma
  refine ⟨fun m x hx => ?_, fun m k b hm hk hmb hkb => ?_, fun b hb' => ⟨h.fp_lt hb' (fpe b hb'), fpq b hb'⟩, fun s x hgc w'' hw'' => h.sxf s x hgc w'' (fun b hb' => (hw'' b hb').trans (fpe b hb'))⟩
  · rw [av] at hx
    by_cases hm : m = n
    · rw [if_pos hm] at hx
      obtain rfl := Option.some.inj hx
      subst hm
      exact ⟨a', rob, dI _ _ _ _, hr, ho, mX _ _ _ _⟩
    · rw [if_neg hm] at hx
      by_cases hg' : m = g
      · rw [if_pos hg'] at hx; simp at hx
      · rw [if_neg hg'] at hx
        obtain ⟨b, ob, h1, h2, h3, h4⟩ := h.at_ m x hx
        obtain ⟨l1, l2⟩ := live m b hm hg' (by rw [hx]; simp) h1
        exact ⟨b, ob, by rw [dL _ _ _ hm]; exact h1, by rw [hw b l1 l2]; exact h2, h3.mono (iK hf), by rw [oH _ _ _ hm]; exact h4⟩
  · rw [av] at hm hk
    by_cases e1 : m = n <;> by_cases e2 : k = n
    · rw [e1, e2]
    · subst e1
      rw [dI] at hmb
      rw [dL _ _ _ e2] at hkb
      rw [if_neg e2] at hk
      by_cases e3 : k = g
      · rw [if_pos e3] at hk; simp at hk
      · rw [if_neg e3] at hk
        exact absurd (Option.some.inj hmb).symm (live k b e2 e3 hk hkb).2
    · subst e2
      rw [dI] at hkb
      rw [dL _ _ _ e1] at hmb
      rw [if_neg e1] at hm
      by_cases e3 : m = g
      · rw [if_pos e3] at hm; simp at hm
      · rw [if_neg e3] at hm
        exact absurd (Option.some.inj hkb).symm (live m b e1 e3 hm hmb).2
    · rw [dL _ _ _ e1] at hmb
      rw [dL _ _ _ e2] at hkb
      rw [if_neg e1] at hm
      rw [if_neg e2] at hk
      by_cases e3 : m = g
      · rw [if_pos e3] at hm; simp at hm
      · rw [if_neg e3] at hm
        by_cases e4 : k = g
        · rw [if_pos e4] at hk; simp at hk
        · rw [if_neg e4] at hk
          exact h.inj m k b hm hk hmb hkb
theorem trMove {n g a a' k : Nat} {w' : World} (hb : β.ad g = some a) (ha : a' = a ∨ w.heap.size ≤ a') (hs : w.heap.size ≤ w'.heap.size) (hw : ∀ k, k < w.heap.size → k ≠ a' → w'.heap[k]? = w.heap[k]?) (h1 : w'.os = w.os) (h2 : w'.tape = w.tape) (h3 : w'.output = w.output) : pK β (jQ β n a' k) n (n + 1) [g] w w' := by
  refine ⟨fun m hm => ⟨dL _ _ _ (by omega), oH _ _ _ (by omega)⟩, fun _ _ h => h, fun _ h => h, fun _ h => Or.inl h, by omega, ⟨h1, h2, h3, hs, fun k hk hS => hw k hk ?_⟩, fun m b hm1 hm2 hmb => ?_⟩
  · rintro rfl
    rcases ha with rfl | ha
    · exact hS ⟨g, by simp, hb⟩
    · omega
  · obtain rfl : m = n := by omega
    rw [dI] at hmb
    obtain rfl := Option.some.inj hmb
    rcases ha with rfl | ha
    · exact Or.inr ⟨g, by simp, hb⟩
    · exact Or.inl ha
theorem rO {H : Tr HO} {g n m : Nat} {o : HO} : ((H.del g).set n o).get m = if n = m then some o else if g = m then none else H.get m := by
  rw [Tr.get_set, Tr.get_del]
theorem take_spl {us : Array Value} {k : Nat} {news : List Value} (h : k + news.length ≤ us.size) (i : Nat) (hi : i < k + news.length) : (us.toList.take k ++ news ++ us.toList.drop (k + news.length)).toArray[i]? = (us.toList.take k ++ news)[i]? := by
  rw [List.getElem?_toArray, List.getElem?_append_left]
  rw [List.length_append, List.length_take, Array.length_toList]; omega
theorem apAt_stay {t tx ty e e' : TypeId} {i : TypeInfo} (ht : P.underlying t = some (.slice e)) (htx : P.underlying tx = some (.slice e')) (hi : P.info? e = some i) {g o m c n nx lo : Nat} {r : Bool} {cs new : List CV} {el : TypeId} {x : CV} {ul u : Value} {H : Tr HO} (hg : V g = some (.cells cs el r)) (hlt : ∀ n, V n ≠ none → n < nx)
    (hl : RV β (.sl g o m c lo) ul) (hx : RV β x u) (hn : rW x = some n) (hf : kF V (n * i.size) x = some new) (hp : new.all nC = true) (hb : m + n ≤ c) (hfit : o + (m + n) * i.size ≤ cs.length) : vV P (vS (Builtin.append_ #[t, tx] ty #[ul, u])) V β H nx ⟨.sl g o (m + n) c lo, H.set g (.cells (spl cs (o + m * i.size) new) el r), nx, [g]⟩ := by
  refine yX hg (hlt _ (by rw [hg]; simp)) (fun w a rob hb1 hw hr hsz0 hV => ?_)
  obtain ⟨news, hs, rn⟩ := src_ok htx hx hn hf hp hV
  obtain ⟨a', c', ha, rfl, hc, hcl⟩ := hl
  rw [hb1] at ha
  obtain rfl := Option.some.inj ha
  have hr0 := hr
  obtain ⟨us, lo', hi', rfl, q1, q2, q3, q4⟩ := hr
  have hrun := stay_run (ty := ty) ht hi hs (show m + n ≤ c' by omega) hw q3 (o := o) (by omega)
  have hnl : new.length = n * i.size := by rw [← rn.len, hs.newsLen]
  have hml : o + m * i.size + new.length ≤ cs.length := by rw [hnl]; rw [Nat.add_mul] at hfit; omega
  exact ⟨_, _, _, Or.inl (dH hrun), setRow_heap w a us _ el (lo', hi') hw, ro_spl hr0 rn hml, by show Array.size _ = Array.size _; rw [List.size_toArray, lK _ _ _ (by have hul : us.toList.length = us.size := Array.length_toList; have := rn.len; omega), Array.length_toList], fun k hk => lY hk, setRow_size, rfl, rfl, rfl, ⟨a, c', hb1, rfl, hc, hcl⟩⟩
theorem apAt_zero {t tx ty e e' : TypeId} {i : TypeInfo} (ht : P.underlying t = some (.slice e)) (htx : P.underlying tx = some (.slice e')) (hi : P.info? e = some i) {g o m c nx lo : Nat} {r : Bool} {cs new : List CV} {el : TypeId} {x : CV} {ul u : Value} {H : Tr HO} (hg : V g = some (.cells cs el r))
    (hl : RV β (.sl g o m c lo) ul) (hx : RV β x u) (hn : rW x = some 0) (hf : kF V (0 * i.size) x = some new) (hp : new.all nC = true) (hb : m + 0 ≤ c) : vV P (vS (Builtin.append_ #[t, tx] ty #[ul, u])) V β H nx ⟨.sl g o m c lo, H, nx, []⟩ := by
  refine fP (fun w hV => ?_)
  obtain ⟨news, hs, rn⟩ := src_ok htx hx hn hf hp hV
  obtain ⟨a, c', ha, rfl, hc, hcl⟩ := hl
  have hnl : news = [] := List.eq_nil_of_length_eq_zero (by rw [hs.newsLen]; simp)
  subst hnl
  refine ⟨.slice (some ⟨a, o, none⟩) m c', dH ?_, ⟨a, c', ha, rfl, hc, hcl⟩⟩
  have hmc : m ≤ c' := by omega
  rcases hs.kind with ⟨e'', hk⟩ | hk <;> simp [Builtin.append_, aF ht, aF hk, sizeOf, typeInfo, hi, hs.len, hs.cells, bY, storeCells, hmc]
theorem apAt_new {t tx ty e e' : TypeId} {i : TypeInfo} {z : Value} (ht : P.underlying t = some (.slice e)) (htx : P.underlying tx = some (.slice e')) (hi : P.info? e = some i) (hz : i.zero = some z) (hzs : z.cells.size = i.size) (hs1 : 1 ≤ i.size) {g o m c n nx : Nat} {r : Bool} {cs new : List CV} {el : TypeId} {x : CV} {ul u : Value} {H : Tr HO} (hg : V g = some (.cells cs el r))
    (hl : RV β (.sl g o m c 0) ul) (hx : RV β x u) (hn : rW x = some n) (hf : kF V (n * i.size) x = some new) (hp : new.all nC = true) (hb : c < m + n) (q0 : o + m * i.size ≤ cs.length) (b1 : (m + n) * i.bytes ≤ 1099511627776) (b2 : m + n ≤ 1099511627776) :
    vV P (vS (Builtin.append_ #[t, tx] ty #[ul, u])) V β H nx ⟨.sl nx 0 (m + n) (m + n) i.size, H.set nx (.cells (cut cs o (m * i.size) ++ new) e true), nx + 1, []⟩ := by
  refine oU (fun w hV => ?_)
  obtain ⟨news, hs, rn⟩ := src_ok htx hx hn hf hp hV
  obtain ⟨a, c', ha, rfl, hc, hcl, _⟩ := hl
  obtain ⟨a', rob, q1, q2, q3, _⟩ := hV.at_ g _ hg
  rw [ha] at q1
  obtain rfl := Option.some.inj q1
  obtain ⟨us, lo', hi', rfl, p1, p2, p3, p4⟩ := q3
  have hcl := hcl rfl
  have hold : (Builtin.firstCells i.size m (.slice (some ⟨a, o, none⟩) m c')).run P w.drew = .ok (lH us o (m * i.size)).toArray w.drew := loadR (w := w.drew) q2 (by omega)
  obtain ⟨k, w', r1, r2, r3, r4, r5⟩ := pY (ty := ty) ht hi hz hold hs (by omega) b1 b2
  refine ⟨_, w', _, dH r1, r2, r3, r4, r5, fun β' hs' hb' hk' => ⟨ro_app ((uS p4 q0 p1).mono hs') (rn.mono hs') _, ⟨_, _, hb', rfl, by omega, fun e0 => absurd e0 (by omega), fun _ => ?_⟩⟩⟩
  · rw [hk']
    show 0 + (m + n + k) * i.size ≤ Array.size _
    rw [Array.size_append, List.size_toArray, List.length_append, eY (by omega), hs.newsLen]
    simp only [Builtin.zeroCells, Array.size_map, Array.size_range]
    rw [hzs, ← Nat.add_mul, ← Nat.add_mul]; omega
theorem apAt_move {t tx ty e e' : TypeId} {i : TypeInfo} {z : Value} (ht : P.underlying t = some (.slice e)) (htx : P.underlying tx = some (.slice e')) (hi : P.info? e = some i) (hz : i.zero = some z) (hzs : z.cells.size = i.size) (hs1 : 1 ≤ i.size) {g m c n nx : Nat} {r : Bool} {cs new : List CV} {x : CV} {ul u : Value} {H : Tr HO} (hg : V g = some (.cells cs e r)) (hlt : ∀ n, V n ≠ none → n < nx)
    (hl : RV β (.sl g 0 m c i.size) ul) (hx : RV β x u) (hn : rW x = some n) (hf : kF V (n * i.size) x = some new) (hp : new.all nC = true) (hb : c < m + n) (q0 : m * i.size ≤ cs.length) (b1 : (m + n) * i.bytes ≤ 1099511627776) (b2 : m + n ≤ 1099511627776) :
    vV P (vS (Builtin.append_ #[t, tx] ty #[ul, u])) V β H nx ⟨.sl nx 0 (m + n) (m + n) i.size, (H.del g).set nx (.cells (cs.take (m * i.size) ++ new) e true), nx + 1, [g]⟩ := by
  have gn : g < nx := hlt _ (by rw [hg]; simp)
  refine ⟨fun w hV hfr => ?_, ⟨by simp, fun k hk hkp => ?_, fun p hp => ?_⟩⟩
  · have hnx : β.ad nx = none := hfr nx (Nat.le_refl _) (by simp)
    obtain ⟨news, hs, rn⟩ := src_ok htx hx hn hf hp hV
    obtain ⟨a, c', ha, rfl, hc, _, hcz⟩ := hl
    have hcz := hcz (by omega)
    obtain ⟨a', rob, q1, q2, q3, q4⟩ := hV.at_ g _ hg
    rw [ha] at q1
    obtain rfl := Option.some.inj q1
    obtain ⟨us, lo', hi', rfl, p1, p2, p3, p4⟩ := q3
    have hul : us.toList.length = us.size := Array.length_toList
    rw [q4] at hcz
    simp only [iQ, Nat.zero_add] at hcz
    have hH : ((H.del g).set nx (.cells (cs.take (m * i.size) ++ new) e true)).get nx = some (.cells (cs.take (m * i.size) ++ new) e true) := by rw [rO, if_pos rfl]
    have hH' : ((H.del g).set nx (.cells (cs.take (m * i.size) ++ new) e true)).get g = none := by rw [rO, if_neg (by omega), if_pos rfl]
    have hcut : cut cs 0 (m * i.size) = cs.take (m * i.size) := by unfold cut; rw [List.drop_zero]
    have hcr : lH us 0 (m * i.size) = us.toList.take (m * i.size) := by unfold lH; rw [List.drop_zero]
    have rold : bJ β (cs.take (m * i.size)) (us.toList.take (m * i.size)) := by rw [← hcut, ← hcr]; exact uS p4 (by omega) p1
    have hnl : new.length = n * i.size := by rw [← rn.len, hs.newsLen]
    by_cases hroom : m + n ≤ c'
    · have hfit : (m + n) * i.size ≤ us.size := Nat.le_trans (Nat.mul_le_mul_right _ hroom) hcz
      have hrun := stay_run (ty := ty) ht hi hs hroom q2 p3 (o := 0) (by rw [Nat.zero_add]; exact hfit)
      simp only [Nat.zero_add] at hrun
      have hsz : m * i.size + news.length ≤ us.size := by rw [hs.newsLen, ← Nat.add_mul]; exact hfit
      have rall := rold.append rn
      have hos : iQ (.cells (us.toList.take (m * i.size) ++ news ++ us.toList.drop (m * i.size + news.length)).toArray e (lo', hi')) = us.size := by
        show Array.size _ = _
        rw [List.size_toArray, lK _ _ _ (by omega), hul]
      refine dZ (dH hrun) ⟨_, trMove (k := _) ha (Or.inl rfl) (Nat.le_of_eq (setRow_size (w := w)).symm) (fun k _ hk => lY hk) rfl rfl rfl, ⟨a, c', dI _ _ _ _, rfl, hroom, fun e => absurd e (by omega), fun _ => ?_⟩, hV.move hnx hH hH' hg ha (Or.inl rfl) (fun k _ hk => lY hk) (setRow_heap w a us _ e (lo', hi') q2) ?_⟩
      · rw [mX, hos]; omega
      · refine ⟨_, lo', hi', rfl, ?_, fun e => by simp at e, ?_, fun j y hy => ?_⟩
        · rw [List.size_toArray, lK _ _ _ (by omega), hul, List.length_append, List.length_take]; rw [rn.len] at hsz; omega
        · rw [List.size_toArray, lK _ _ _ (by omega), hul]; exact p3
        · obtain ⟨v, k1, k2⟩ := rall.get hy
          have hj : j < m * i.size + news.length := by
            have := (List.getElem?_eq_some_iff.1 k1).1
            rw [List.length_append, List.length_take, hul] at this; omega
          exact ⟨v, by rw [take_spl hsz j hj]; exact k1, k2.mono (iK hnx)⟩
    · have hold : (Builtin.firstCells i.size m (.slice (some ⟨a, 0, none⟩) m c')).run P w.drew = .ok (lH us 0 (m * i.size)).toArray w.drew := loadR (w := w.drew) q2 (by omega)
      obtain ⟨k, w', r1, r2, r3, r4, r5⟩ := pY (ty := ty) ht hi hz hold hs (by omega) b1 b2
      have hwk : ∀ k, k < w.heap.size → k ≠ w.heap.size → w'.heap[k]? = w.heap[k]? := fun k hk _ => by rw [r2, Array.getElem?_push, if_neg (by omega)]
      have hr : w'.heap[w.heap.size]? = some (.cells ((lH us 0 (m * i.size) ++ news).toArray ++ Builtin.zeroCells z.cells k) e (0, 0)) := by rw [r2]; simp
      refine dZ (dH r1) ⟨_, trMove (k := _) ha (Or.inr (Nat.le_refl _)) (by rw [r2]; simp) hwk r3 r4 r5, ⟨w.heap.size, _, dI _ _ _ _, rfl, by omega, fun e => absurd e (by omega), fun _ => ?_⟩, hV.move hnx hH hH' hg ha (Or.inr (Nat.le_refl _)) hwk hr ?_⟩
      · rw [mX]
        show 0 + (m + n + k) * i.size ≤ Array.size _
        rw [Array.size_append, List.size_toArray, List.length_append, eY (by omega), hs.newsLen]
        simp only [Builtin.zeroCells, Array.size_map, Array.size_range]
        rw [hzs, ← Nat.add_mul, ← Nat.add_mul]; omega
      · rw [hcr]
        exact ro_app (rold.mono (iK hnx)) (rn.mono (iK hnx)) _
  · simp only [List.mem_singleton] at hkp
    show ((H.del g).set nx _).get k = H.get k
    rw [rO, if_neg (by rintro rfl; exact hk ⟨Nat.le_refl _, by simp⟩), if_neg (fun e => hkp e.symm)]
  · simp only [List.mem_singleton] at hp
    subst hp; rw [hg]; simp
end
section
variable {P : Program} {β : Names} {V : Acc} {w : World}
theorem zeroC_size {e : TypeId} {i : TypeInfo} {zl : List CV} (hi : P.info? e = some i) (h : qO P e = some zl) : ∃ z, i.zero = some z ∧ z.cells.size = zl.length := by
  unfold qO at h
  try simp only [bW, bD] at h
  rw [hi] at h
  simp only at h
  split at h
  · rename_i v hv
    refine ⟨v, hv, ?_⟩
    have k : bJ ⟨fun _ => none, fun _ => 0, fun _ _ => False, fun _ => False⟩ zl v.cells.toList := xE h
    rw [← Array.length_toList, k.len]
  · simp at h
theorem apNil {t tx ty e e' : TypeId} {i : TypeInfo} {z : Value} (ht : P.underlying t = some (.slice e)) (htx : P.underlying tx = some (.slice e')) (hi : P.info? e = some i) (hz : i.zero = some z) (hzs : z.cells.size = i.size) (hs1 : 1 ≤ i.size) {n nx : Nat} {new : List CV} {x : CV} {u : Value} {H : Tr HO}
    (hx : RV β x u) (hn : rW x = some n) (hf : kF V (n * i.size) x = some new) (hp : new.all nC = true) (h0 : 0 < n) (b1 : n * i.bytes ≤ 1099511627776) (b2 : n ≤ 1099511627776) :
    vV P (vS (Builtin.append_ #[t, tx] ty #[.slice none 0 0, u])) V β H nx ⟨.sl nx 0 n n i.size, H.set nx (.cells new e true), nx + 1, []⟩ := by
  refine oU (fun w hV => ?_)
  obtain ⟨news, hs, rn⟩ := src_ok htx hx hn hf hp hV
  obtain ⟨k, w', r1, r2, r3, r4, r5⟩ := pY (ty := ty) (base := none) (m := 0) (c := 0) (olds := []) ht hi hz rfl hs (by omega) (by rw [Nat.zero_add]; exact b1) (by omega)
  rw [Nat.zero_add] at r1
  refine ⟨_, w', _, dH r1, r2, r3, r4, r5, fun β' hs' hb' hk' => ⟨?_, ⟨_, _, hb', rfl, by omega, fun e0 => absurd e0 (by omega), fun _ => ?_⟩⟩⟩
  · have := ro_app (β := β') (a := []) (b := new) (x := []) (e := e) rfl (rn.mono hs') (Builtin.zeroCells z.cells k)
    exact this
  · rw [hk']
    show 0 + (n + k) * i.size ≤ Array.size _
    rw [Array.size_append, List.size_toArray, List.nil_append, hs.newsLen]
    simp only [Builtin.zeroCells, Array.size_map, Array.size_range]
    rw [hzs, ← Nat.add_mul]; omega
theorem mAp_ok {t tx ty e e' : TypeId} {i : TypeInfo} {zl : List CV} (ht : P.underlying t = some (.slice e)) (htx : P.underlying tx = some (.slice e')) (hi : P.info? e = some i) (hz : qO P e = some zl) (hzl : zl.length = i.size) (hs1 : 1 ≤ i.size) {a x : Operand} {f g : yZ} (ha : aX a = some f) (hx : aX x = some g) {fr : dV} {A : Act} {H : Tr HO} {nx : Nat} {out : Out} (hG : Gl β) (hF : RF β fr A) (hlt : ∀ n, V n ≠ none → n < nx) (h : mAp e i.size i.bytes f g fr V H nx = some out) : vV P (vS (Builtin.append_ #[t, tx] ty #[A.eval a, A.eval x])) V β H nx out := by
  obtain ⟨z, hz1, hz2⟩ := zeroC_size hi hz
  have hzs : z.cells.size = i.size := by omega
  unfold mAp at h
  split at h
  · rename_i l c hl hc
    have rl := aW ha hG hF hl
    have rx := aW hx hG hF hc
    split at h
    · rename_i n hn
      split at h
      · rename_i new hnew
        split at h
        · rename_i hp
          have hp := (Bool.and_eq_true _ _ ▸ hp).1
          split at h
          · simp only [RV] at rl
            rw [rl]
            split at h
            · obtain rfl := Option.some.inj h
              refine fP (fun w hV => ?_)
              obtain ⟨news, hs, rn⟩ := src_ok htx rx hn hnew hp hV
              exact ⟨.slice none 0 0, dH (stay_nil ht hi hs), rfl⟩
            · rename_i hne
              unfold yY at h
              split at h
              · rename_i hb
                rw [Bool.and_eq_true] at hb
                obtain rfl := Option.some.inj h
                exact apNil ht htx hi hz1 hzs hs1 rx hn hnew hp (by
                  rcases Nat.eq_zero_or_pos n with h0 | h0
                  · exact absurd h0 hne
                  · exact h0) (dK hb.1) (dK hb.2)
              · simp at h
          · rename_i gg o m cp lo
            split at h
            · rename_i cs el r hg
              unfold apAt at h
              split at h
              · rename_i hb
                have hb := dK hb
                split at h
                · obtain rfl := Option.some.inj h
                  exact apAt_zero ht htx hi hg rl rx hn hnew hp hb
                · split at h
                  · rename_i hfit
                    obtain rfl := Option.some.inj h
                    exact apAt_stay ht htx hi hg hlt rl rx hn hnew hp hb (dK hfit)
                  · simp at h
              · rename_i hb
                have hb : cp < m + n := by
                  by_cases hh : m + n ≤ cp
                  · rw [show Nat.ble (m + n) cp = true from by rw [Nat.ble_eq]; exact hh] at hb; simp at hb
                  · omega
                split at h
                · rename_i hq
                  rw [Bool.and_eq_true] at hq
                  have q0 := dK hq.1
                  obtain rfl := Nat.eq_of_beq_eq_true hq.2
                  split at h
                  · rename_i hlo
                    obtain rfl := Nat.eq_of_beq_eq_true hlo
                    unfold yY at h
                    split at h
                    · rename_i hbb
                      rw [Bool.and_eq_true] at hbb
                      obtain rfl := Option.some.inj h
                      exact apAt_new ht htx hi hz1 hzs hs1 hg rl rx hn hnew hp hb q0 (dK hbb.1) (dK hbb.2)
                    · simp at h
                  · split at h
                    · rename_i hls
                      rw [Bool.and_eq_true] at hls
                      obtain rfl := Nat.eq_of_beq_eq_true hls.1
                      obtain rfl := Nat.eq_of_beq_eq_true hls.2
                      split at h
                      · rename_i x0 hx0
                        unfold yY at hx0
                        split at hx0
                        · rename_i hbb
                          rw [Bool.and_eq_true] at hbb
                          obtain rfl := Option.some.inj hx0
                          obtain rfl := Option.some.inj h
                          exact apAt_move ht htx hi hz1 hzs hs1 hg hlt rl rx hn hnew hp hb (by omega) (dK hbb.1) (dK hbb.2)
                        · simp at hx0
                      · simp at h
                    · simp at h
                · simp at h
            · simp at h
          · simp at h
        · simp at h
      · simp at h
    · simp at h
  · simp at h
theorem first_ok {s k : Nat} {x : CV} {u : Value} {l : List CV} (hx : RV β x u) (hf : kF V (k * s) x = some l) (hV : HV V β w) (hs : ∀ m, rW x = some m → k ≤ m) : ∃ us, (Builtin.firstCells s k u).run P w = .ok us w ∧ bJ β l us.toList ∧ us.size = k * s := by
  unfold kF at hf
  split at hf
  · simp only [RV] at hx
    have rhx := hx
    try replace hx := hx.1
    subst hx
    split at hf
    · obtain rfl := Option.some.inj hf
      refine ⟨#[], rfl, rfl, ?_⟩
      rw [show k = 0 by have := hs 0 rfl; omega]; simp
    · simp at hf
  · rename_i g o m c lo
    split at hf
    · rename_i cs e r hg
      split at hf
      · rename_i hb
        have hb := dK hb
        obtain rfl := Option.some.inj hf
        obtain ⟨a, c', ha, rfl, _⟩ := hx
        obtain ⟨a', rob, h1, h2, h3, _⟩ := hV.at_ g _ hg
        rw [ha] at h1
        obtain rfl := Option.some.inj h1
        obtain ⟨us, lo', hi', rfl, q1, q2, q3, q4⟩ := h3
        exact ⟨_, loadR h2 (by omega), uS q4 hb q1, by rw [List.size_toArray, eY (by omega)]⟩
      · simp at hf
    · simp at hf
  · split at hf
    · obtain rfl := Option.some.inj hf
      obtain ⟨b, c, rfl⟩ := hx
      have hk := hs 0 rfl
      obtain rfl : k = 0 := by omega
      exact ⟨#[], yA b c w, rfl, by simp⟩
    · simp at hf
  · rename_i l o m
    split at hf
    · rename_i hb
      obtain rfl := Option.some.inj hf
      obtain ⟨us, k1, k2, k3⟩ := fz_first (P := P) (s := s) hx (dK hb) (hs m rfl) hV
      exact ⟨us.toArray, k3 w rfl, k2, by rw [List.size_toArray, k1]⟩
    · simp at hf
  · simp at hf
theorem mCp_ok {t tx ty e : TypeId} {s : Nat} (ht : P.underlying t = some (.slice e)) (hs : qV P e = some s) {a x : Operand} {f g : yZ} (ha : aX a = some f) (hx : aX x = some g) {ts : Array TypeId} (hts : ts[0]? = some t) {fr : dV} {A : Act} {H : Tr HO} {nx : Nat} {out : Out} (hG : Gl β) (hF : RF β fr A) (hlt : ∀ n, V n ≠ none → n < nx) (h : mCp s f g fr V H nx = some out) : vV P (vS (Builtin.copy_ ts ty #[A.eval a, A.eval x])) V β H nx out := by
  unfold mCp at h
  split at h
  · rename_i d c hd hc
    have rd := aW ha hG hF hd
    have rx := aW hx hG hF hc
    split at h
    · rename_i n m hn hm
      split at h
      · rename_i l hl
        have hlen : ∀ w, (Builtin.lenOf (A.eval x)).run P w = .ok m w := by
          intro w
          cases c <;> simp only [rW, reduceCtorEq] at hm
          · obtain ⟨_, _, _, _, rx, _⟩ := rx
            rw [rx, ← Option.some.inj hm]; rfl
          · obtain ⟨_, _, rx⟩ := rx
            rw [rx, ← Option.some.inj hm]; rfl
          · obtain ⟨_, _, _, rx, _⟩ := rx
            rw [rx, ← Option.some.inj hm]; rfl
          · simp only [RV] at rx
            rw [rx, ← Option.some.inj hm]; rfl
        have hnil : ∀ m', rW c = some m' → min m n ≤ m' := by
          intro m' hm'
          rw [hm] at hm'
          have := Option.some.inj hm'
          omega
        split at h
        · simp only [rW, Option.some.injEq] at hn
          subst hn
          obtain rfl := Option.some.inj h
          refine fP (fun w hV => ?_)
          obtain ⟨us, k1, k2, k3⟩ := first_ok (P := P) rx hl hV hnil
          simp only [RV] at rd
          refine ⟨.int .i64 0, dH ?_, rfl, nofun⟩
          rw [rd]
          have e1 : Nat.min m 0 = min m 0 := rfl
          simp [Builtin.copy_, hts, aF ht, hlen, e1, bP hs, goInt]
          simp at k1
          simp [k1]
        · rename_i gg o cn cp lo
          split at h
          · rename_i cs el r hg
            split at h
            · rename_i hb
              rw [Bool.and_eq_true] at hb
              have b1 := dK hb.1
              simp only [rW, Option.some.injEq] at hn
              subst hn
              obtain rfl := Option.some.inj h
              refine yX hg (hlt _ (by rw [hg]; simp)) (fun w b rob hb1 hw hr hsz0 hV => ?_)
              obtain ⟨us, k1, k2, k3⟩ := first_ok (P := P) rx hl hV hnil
              obtain ⟨b', c', hb', he, hcc⟩ := rd
              rw [hb1] at hb'
              obtain rfl := Option.some.inj hb'
              have hr0 := hr
              obtain ⟨vs, lo', hi', rfl, q1, q2, q3, q4⟩ := hr
              have hvl : vs.toList.length = vs.size := Array.length_toList
              have hll : l.length = min m cn * s := by rw [← k2.len, Array.length_toList, k3]
              have hul : us.toList.length = min m cn * s := by rw [Array.length_toList, k3]
              have hrun := lN P b o el (lo', hi') us.toList 0 vs w hw q3 (by rw [hul]; omega) (all_one k2 hb.2)
              simp only [Nat.add_zero] at hrun
              refine ⟨.int .i64 (min m cn : Nat), _, _, Or.inl (dH ?_), setRow_heap w b vs _ el (lo', hi') hw, ro_spl hr0 k2 (by omega), ?_, fun k hk => lY hk, setRow_size, rfl, rfl, rfl, by rw [lV]; exact ⟨rfl, nofun⟩⟩
              · rw [he]
                have e1 : Nat.min m cn = min m cn := rfl
                simp only [Builtin.copy_, hts, Sem.run_bind, aF ht, Result.andThen_ok, hlen, e1, bP hs, k1, hrun, Sem.run_pure, goInt]
                simp [aF ht, hlen, e1, bP hs, k1, hrun, goInt]
              · show Array.size _ = Array.size _
                rw [List.size_toArray, lK _ _ _ (by omega), hvl]
            · simp at h
          · simp at h
        · simp at h
      · simp at h
    · simp at h
  · simp at h
end
section
variable {P : Program} {β : Names} {V : Acc} {w : World}
theorem bytesC_ok : ∀ {l : List CV} {b : List UInt8}, bytesC l = some b → ∀ {us : List Value}, bJ β l us → ∃ ns : List Int, us = ns.map (Value.int .u8) ∧ b = ns.map (fun n => UInt8.ofNat n.toNat)
  | [], b, h, us, hr => by
    simp only [bytesC, Option.some.injEq] at h
    subst h
    rw [show us = [] from hr]
    exact ⟨[], rfl, rfl⟩
  | c :: r, b, h, us, hr => by
    unfold bytesC at h
    split at h
    · rename_i h0; simp at h0
    · rename_i n r' h0
      simp only [List.cons.injEq] at h0
      obtain ⟨rfl, rfl⟩ := h0
      split at h
      · rename_i l hl
        obtain rfl := Option.some.inj h
        obtain ⟨u, us', rfl, hu, hr'⟩ := hr
        obtain ⟨ns, rfl, rfl⟩ := bytesC_ok hl hr'
        simp only [RV] at hu
        exact ⟨(.ofNat n) :: ns, by rw [hu.1]; rfl, by simp⟩
      · simp at h
    · simp at h
theorem fold_push (ns : List Int) : ∀ (s : ByteArray), ns.foldl (fun r n => r.push (UInt8.ofNat n.toNat)) s = ⟨s.data ++ (ns.map (fun n => UInt8.ofNat n.toNat)).toArray⟩ := by
  induction ns with
  | nil => intro s; simp
  | cons n ns ih =>
    intro s
    rw [List.foldl_cons, ih]
    simp [ByteArray.push]
theorem bytesI_ok : ∀ {l : List CV} {b : List Int}, wF l = some b → ∀ {us : List Value}, bJ β l us → us = b.map (Value.int .u8) ∧ ∀ z ∈ b, 0 ≤ z ∧ z < 256
  | [], b, h, us, hu => by
    simp only [wF, Option.some.injEq] at h
    subst h
    exact ⟨hu, fun z hz => by simp at hz⟩
  | x :: r, b, h, us, hu => by
    obtain ⟨u, us', rfl, h1, h2⟩ := hu
    cases x with
    | int s k z =>
      cases k with
      | u8 =>
        simp only [wF] at h
        split at h
        · rename_i l hl hr
          obtain rfl := Option.some.inj h
          obtain ⟨e1, e2⟩ := bytesI_ok hl h2
          have hz := gJ hr h1.2
          rw [lS] at hz
          simp [IntKind.signed, IntKind.bits] at hz
          refine ⟨by rw [e1, h1.1]; rfl, fun y hy => ?_⟩
          rcases List.mem_cons.1 hy with rfl | hy
          · exact hz
          · exact e2 y hy
        · simp at h
      | _ => simp [wF] at h
    | _ => simp [wF] at h
theorem b2s_run {sr ds e : TypeId} (hs : P.underlying sr = some (.slice e)) (he : P.underlying e = some (.int .u8)) (hd : P.underlying ds = some .string) {c : CV} {u : Value} (rx : RV β c u) {n : Nat} (hn : rW c = some n) {l : List CV} (hl : kF V n c = some l) (hV : HV V β w) : ∃ us : List Value, bJ β l us ∧ ∀ ns : List Int, us = ns.map (Value.int .u8) → (convert sr ds u).run P w = .ok (.string ⟨(ns.map fun z => UInt8.ofNat z.toNat).toArray⟩) w := by
  obtain ⟨us, k1, k2, k3⟩ := first_ok (P := P) (s := 1) (k := n) rx (by rw [Nat.mul_one]; exact hl) hV (fun m hm => by rw [hn] at hm; exact Nat.le_of_eq (Option.some.inj hm))
  refine ⟨us.toList, k2, fun ns e1 => ?_⟩
  have some_ : ∀ (a : Addr) (c' : Nat), u = .slice (some a) n c' → (convert sr ds u).run P w = .ok (.string ⟨(ns.map fun z => UInt8.ofNat z.toNat).toArray⟩) w := by
    rintro a c' rfl
    rw [run_convert_bytes_string w sr ds e _ _ _ hs he hd]
    simp only [Builtin.firstCells, Nat.mul_one] at k1
    rw [run_bytesToString w _ _ _ ns (by rw [k1, ← e1, Array.toArray_toList]), fold_push]
    simp
  cases c <;> simp only [rW, reduceCtorEq] at hn
  · obtain ⟨a, off, c', _, rx, _⟩ := rx
    obtain rfl := Option.some.inj hn
    exact some_ _ _ rx
  · obtain ⟨b, c', rx⟩ := rx
    obtain rfl := Option.some.inj hn
    cases b with
    | some a => exact some_ _ _ rx
    | none =>
      rw [rx] at k1 ⊢
      rw [run_convert_bytes_string w sr ds e _ _ _ hs he hd]
      simp only [Builtin.firstCells, Sem.run_pure] at k1
      have hus : us = #[] := ((Result.ok.inj k1).1).symm
      subst hus
      have hns : ns = [] := by
        cases ns with
        | nil => rfl
        | cons a b => simp at e1
      subst hns
      rfl
  · obtain ⟨a, c', ha, rx, _⟩ := rx
    obtain rfl := Option.some.inj hn
    exact some_ _ _ rx
  · simp only [RV] at rx
    rw [rx] at k1 ⊢
    rw [run_convert_bytes_string w sr ds e _ _ _ hs he hd]
    simp only [Builtin.firstCells, Sem.run_pure] at k1
    have hus : us = #[] := ((Result.ok.inj k1).1).symm
    subst hus
    have hns : ns = [] := by
      cases ns with
      | nil => rfl
      | cons a b => simp at e1
    subst hns
    rfl
theorem mB2s_ok {sr ds e : TypeId} (hs : P.underlying sr = some (.slice e)) (he : P.underlying e = some (.int .u8)) (hd : P.underlying ds = some .string) {x : Operand} {f : yZ} (hx : aX x = some f) {fr : dV} {A : Act} {H : Tr HO} {nx : Nat} {out : Out} (hG : Gl β) (hF : RF β fr A) (h : mB2s f fr V H nx = some out) : vV P (vS (convert sr ds (A.eval x))) V β H nx out := by
  unfold mB2s at h
  split at h
  · rename_i c hc
    have rx := aW hx hG hF hc
    split at h
    · rename_i n hn
      split at h
      · rename_i l hl
        split at h
        · rename_i b hb
          obtain rfl := Option.some.inj h
          refine fP (fun w hV => ?_)
          obtain ⟨us, k1, k2⟩ := b2s_run hs he hd rx hn hl hV
          obtain ⟨ns, e1, e2⟩ := bytesC_ok hb k1
          exact ⟨.string ⟨b.toArray⟩, dH (by rw [k2 ns e1, e2]), rfl⟩
        · split at h
          · rename_i b hb
            obtain rfl := Option.some.inj h
            refine fP (fun w hV => ?_)
            obtain ⟨us, k1, k2⟩ := b2s_run hs he hd rx hn hl hV
            obtain ⟨e1, e2⟩ := bytesI_ok hb k1
            exact ⟨_, dH (k2 b e1), rfl, e2⟩
          · simp at h
      · simp at h
    · simp at h
  · simp at h
theorem mS2b_ok {sr ds e : TypeId} (hs : P.underlying sr = some .string) (hd : P.underlying ds = some (.slice e)) (he : P.underlying e = some (.int .u8)) {x : Operand} {f : yZ} (hx : aX x = some f) {fr : dV} {A : Act} {H : Tr HO} {nx : Nat} {out : Out} (hG : Gl β) (hF : RF β fr A) (h : mS2b e f fr V H nx = some out) : vV P (vS (convert sr ds (A.eval x))) V β H nx out := by
  unfold mS2b at h
  split at h
  · rename_i b hc
    have rx := aW hx hG hF hc
    simp only [RV] at rx
    obtain rfl := Option.some.inj h
    refine oU (fun w hV => ?_)
    rw [rx]
    have hcap : b.size ≤ grownCap w b.size 0 e := grownCap_ge w b.size 0 e
    let row : Array Value := (b.data.map fun x => Value.int .u8 x.toNat) ++ Array.replicate (grownCap w b.size 0 e - b.size) (.int .u8 0)
    have hrow : row.size = grownCap w b.size 0 e := by
      show Array.size (_ ++ _) = _
      rw [Array.size_append, Array.size_map, Array.size_replicate]
      have : b.data.size = b.size := rfl
      omega
    refine ⟨.slice (some ⟨w.heap.size, 0, none⟩) b.size (grownCap w b.size 0 e), { w.drew with heap := w.heap.push (.cells row e (row.size, row.size + 1)) }, .cells row e (row.size, row.size + 1), dH ?_, rfl, rfl, rfl, rfl, fun β' hs' hb' hk' => ⟨?_, ⟨_, _, hb', rfl, hcap, fun e => by simp at e, fun _ => ?_⟩⟩⟩
    · simp only [convert, Sem.run_bind, aF hs, aF hd, Result.andThen_ok, aF he]
      simp only [Conv.stringToBytes, Sem.run_bind, run_choose, Question.forced, Bool.false_eq_true, if_false, Result.andThen_ok, newRow, run_newObj, Sem.run_pure, markStringish, run_shape]
      have hsh : ∀ w0 : World, w0.heap = w.heap.push (.cells row e) → w0.shape? w.heap.size = some (e, row.size) := by
        intro w0 h0
        unfold World.shape?
        rw [h0]; simp
      rw [hsh _ rfl]
      have hmod : (w.heap.push (.cells row e)).modify w.heap.size (fun | .cells c elem (lo, hi) => .cells c elem (if lo == hi then (row.size, row.size + 1) else (min lo row.size, max hi (row.size + 1))) | o => o) = w.heap.push (.cells row e (row.size, row.size + 1)) := by
        apply Array.ext_getElem?
        intro i
        rw [Array.getElem?_modify, Array.getElem?_push, Array.getElem?_push]
        by_cases hi : w.heap.size = i
        · rw [if_pos hi, if_pos hi.symm, if_pos hi.symm]; rfl
        · rw [if_neg hi, if_neg (fun e => hi e.symm)]
          rw [if_neg (fun e => hi e.symm)]
      simp only [run_freeze, World.freeze, Nat.one_ne_zero, if_false, Result.andThen_ok]
      exact congrArg (fun h => Result.ok (Value.slice (some ⟨w.heap.size, 0, none⟩) b.size (grownCap w b.size 0 e)) ({ w.drew with heap := h } : World)) hmod
    · have hbl : b.data.toList.length = b.size := Array.length_toList
      refine ⟨row, row.size, row.size + 1, rfl, ?_, fun e => by simp at e, Or.inr (Nat.le_refl _), fun i c hc => ?_⟩
      · rw [List.length_map, hbl, hrow]; exact hcap
      · rw [List.getElem?_map] at hc
        cases hq : b.data.toList[i]? with
        | none => rw [hq] at hc; simp at hc
        | some y =>
          rw [hq] at hc
          simp only [Option.map_some, Option.some.injEq] at hc
          subst hc
          have hi : i < b.data.size := by
            rw [← Array.length_toList]; exact (List.getElem?_eq_some_iff.1 hq).1
          refine ⟨.int .u8 y.toNat, ?_, rfl, nofun⟩
          show (_ ++ _)[i]? = _
          rw [Array.getElem?_append_left (by rw [Array.size_map]; exact hi), Array.getElem?_map]
          rw [Array.getElem?_toList] at hq
          rw [hq]; rfl
    · rw [hk']
      show 0 + _ * 1 ≤ row.size
      omega
  · simp at h
end
section
variable {P : Program} {β : Names} {V : Acc} {w : World}
theorem run_getObj {r : Nat} {o : Obj} (h : w.heap[r]? = some o) (hn : ∀ c e f, o ≠ .cells c e f) : (getObj r).run P w = .ok o w := by
  unfold getObj
  simp only [Sem.run, h]
theorem run_setObj {r : Nat} {o o' : Obj} (h : w.heap[r]? = some o) (hn : ∀ c e f, o ≠ .cells c e f) : (setObj r o').run P w = .ok () { w with heap := w.heap.setIfInBounds r o' } := by
  unfold setObj
  simp only [Sem.run, h]
def Ck (P : Program) (t : TypeId) (n D : Nat) : Prop := ∀ (β : Names) (l : List CV) (xs : Array Value) (o : Nat) (b : Bool) (w : World), bJ β l xs.toList → o + n ≤ l.length → ∃ a, (part t xs o).run P w = .ok a w ∧ (Instr.checkKey b D t a).run P w = .ok () w
theorem check_plain {t : TypeId} {d : TypeDesc} (hu : P.underlying t = some d) (hd : (match d with | .interface _ => false | .array _ _ => false | .struct _ => false | _ => true) = true) (b : Bool) (D : Nat) (v : Value) (w : World) : (Instr.checkKey b (D + 1) t v).run P w = .ok () w := by
  unfold Instr.checkKey
  simp only [Sem.run_bind, aF hu, Result.andThen_ok]
  cases d <;> first | (simp at hd; done) | rfl
theorem ck_one {t : TypeId} {d : TypeDesc} (hu : P.underlying t = some d) (hd : (match d with | .interface _ => false | .array _ _ => false | .struct _ => false | _ => true) = true) (D : Nat) : Ck P t 1 (D + 1) := by
  intro β l xs o b w hl h1
  obtain ⟨u, hu1, ru⟩ := hl.get (List.getElem?_eq_getElem (show o < l.length by omega))
  have hag : fQ P t = some false := by
    unfold fQ; rw [bD, hu]
    cases d <;> first | rfl | (simp at hd; done)
  refine ⟨u, ?_, check_plain hu hd b D u w⟩
  simp only [part, Sem.run_bind, iF hag, Result.andThen_ok, Bool.false_eq_true, if_false]
  rw [show xs[o]? = some u by rw [← Array.getElem?_toList]; exact hu1]; rfl
theorem forIn_all {α : Type} {w : World} : ∀ (l : List α) (f : α → PUnit → Sem (ForInStep PUnit)), (∀ x ∈ l, ∀ r, (f x r).run P w = .ok (.yield PUnit.unit) w) → (forIn l PUnit.unit f).run P w = .ok PUnit.unit w
  | [], _, _ => rfl
  | x :: l, f, h => by
    rw [List.forIn_cons]
    simp only [Sem.run_bind, h x List.mem_cons_self, Result.andThen_ok]
    exact forIn_all l f (fun y hy => h y (List.mem_cons_of_mem _ hy))
theorem cover_mem {cw : TypeId → Option (List Nat)} : ∀ {fs : List Field} {acc : Nat} {ts : List Nat}, cover cw fs acc = some ts → ∀ f ∈ fs, f.name ≠ "_" ∧ ∃ tf, cw f.type = some tf ∧ f.offset + tf.length ≤ acc + ts.length
  | [], _, _, _, f, hf => by simp at hf
  | g :: fs, acc, ts, hc, f, hf => by
    unfold cover at hc
    split at hc
    · rename_i tf hn hg
      split at hc
      · rename_i tr hr
        simp only [Option.some.injEq] at hc
        subst hc
        simp only [Bool.and_eq_true, bne_iff_ne, ne_eq] at hn
        have ho := Nat.eq_of_beq_eq_true hn.2
        rcases List.mem_cons.1 hf with rfl | hf
        · exact ⟨hn.1, tf, hg, by rw [List.length_append]; omega⟩
        · obtain ⟨k1, t1, k2, k3⟩ := cover_mem hr f hf
          exact ⟨k1, t1, k2, by rw [List.length_append]; omega⟩
      · simp at hc
    · simp at hc
theorem ck_ok : ∀ {d : Nat} {t : TypeId} {ts : List Nat}, cZ P d t = some ts → ∀ D : Nat, d ≤ D → Ck P t ts.length D
  | 0, t, ts, h => by simp [cZ] at h
  | d + 1, t, ts, h => by
    intro D hD
    obtain ⟨D, rfl⟩ : ∃ n, D = n + 1 := ⟨D - 1, by omega⟩
    unfold cZ at h
    try simp only [bW, bD] at h
    split at h
    · rename_i hu
      obtain ⟨rfl, hz⟩ := iY h
      exact ck_one hu rfl D
    · rename_i hu
      obtain ⟨rfl, hz⟩ := iY h
      exact ck_one hu rfl D
    · rename_i k hu
      obtain ⟨rfl, hz⟩ := iY h
      exact ck_one hu rfl D
    · rename_i fs hu
      split at h
      · rename_i tc hp hc
        obtain ⟨rfl, hz⟩ := iY h
        intro β l xs o b w hl h1
        have hag : fQ P t = some true := by unfold fQ; rw [bD, hu]
        refine ⟨.agg (xs.extract o (o + ts.length)), ?_, ?_⟩
        · simp only [part, Sem.run_bind, iF hag, Result.andThen_ok, if_true, bP hz, Sem.run_pure]
        · unfold Instr.checkKey
          simp only [Sem.run_bind, aF hu, Result.andThen_ok]
          rw [← Array.forIn_toList]
          rw [forIn_all (P := P) (w := w) fs.toList _ (fun f hf r => ?_)]
          · rfl
          obtain ⟨k1, tf, k2, k3⟩ := cover_mem hc f hf
          obtain ⟨a, r1, r2⟩ := ck_ok (d := d) k2 D (by omega) β _ _ f.offset b w (wV hl o ts.length) (by rw [jH h1]; omega)
          rw [if_pos k1]
          simp only [Sem.run_bind, r1, r2, Result.andThen_ok, Sem.run_pure]
      · simp at h
    · rename_i n el hu
      split at h
      · rename_i te hte
        obtain ⟨rfl, hz⟩ := iY h
        intro β l xs o b w hl h1
        have hag : fQ P t = some true := by unfold fQ; rw [bD, hu]
        refine ⟨.agg (xs.extract o (o + (xY n te).length)), ?_, ?_⟩
        · simp only [part, Sem.run_bind, iF hag, Result.andThen_ok, if_true, bP hz, Sem.run_pure]
        · unfold Instr.checkKey
          simp only [Sem.run_bind, aF hu, Result.andThen_ok]
          simp only [Std.Legacy.Range.forIn_eq_forIn_range', Std.Legacy.Range.size, Nat.sub_zero, Nat.add_one_sub_one, Nat.div_one]
          rw [forIn_all (P := P) (w := w) (List.range' 0 n) _ (fun i hi r => ?_)]
          · rfl
          have hi' : i < n := by simpa using hi
          have hm : (i + 1) * te.length ≤ n * te.length := Nat.mul_le_mul_right _ hi'
          obtain ⟨a, r1, r2⟩ := ck_ok (d := d) hte D (by omega) β _ _ (i * te.length) b w (wV hl o (xY n te).length) (by rw [jH h1, pX]; rw [Nat.succ_mul] at hm; exact hm)
          simp only [Sem.run_bind, bP (oZ hte), r1, r2, Result.andThen_ok, Sem.run_pure]
      · simp at h
    · simp at h
end
section
variable {P : Program} {β : Names} {V : Acc} {w : World}
theorem kX {r : Nat} {rs : Array MapEntry} {c : Nat} (h : w.heap[r]? = some (.map rs c)) : (getObj r).run P w = .ok (.map rs c) w := run_getObj h (by intro _ _ _ h; cases h)
theorem run_setMap {r : Nat} {rs : Array MapEntry} {c : Nat} {o' : Obj} (h : w.heap[r]? = some (.map rs c)) : (setObj r o').run P w = .ok () { w with heap := w.heap.setIfInBounds r o' } := run_setObj h (by intro _ _ _ h; cases h)
def scD : TypeDesc → Bool
  | .slice _ => false
  | .pointer _ => false
  | _ => true
def FRes (β : Names) : Option (Nat × CV) → Option (Nat × Value) → Prop
  | none, r => r = none
  | some x, r => ∃ v, r = some (x.1, v) ∧ RV β x.2 v
theorem cmpQ_now {t : TypeId} {ty : TypeDesc} (hu : P.underlying t = some ty) (hag : fQ P t = some false) {c d : CV} {u v : Value} {s e : Bool} (ha : RV β c u) (hb : RV β d v) (h : tC P t c d = some (s, e)) (hk : scD ty = true) : Instr.sameNow ty u v = some e := by
  unfold tC at h
  try simp only [bW, bD] at h
  rw [hu] at h
  cases ty with
  | bool =>
    simp only [eq1] at h
    split at h
    · simp only [Option.some.injEq, Prod.mk.injEq] at h
      simp only [RV] at ha hb
      have rha := ha
      try replace ha := ha.1
      have rhb := hb
      try replace hb := hb.1
      subst ha hb
      simp [Instr.sameNow, h.2]
    · simp at h
  | string =>
    simp only [eq1] at h
    split at h
    · simp only [Option.some.injEq, Prod.mk.injEq] at h
      simp only [RV] at ha hb
      have rha := ha
      try replace ha := ha.1
      have rhb := hb
      try replace hb := hb.1
      subst ha hb
      simp only [Instr.sameNow]
      rw [beq_toListBytes, h.2]
    · simp only [Option.some.injEq, Prod.mk.injEq] at h
      obtain ⟨rfl, ha⟩ := ha
      obtain ⟨rfl, hb⟩ := hb
      simp only [Instr.sameNow]
      rw [beq_toListBytes, st_beq ha hb, h.2]
    · simp at h
  | int k =>
    simp only [eq1] at h
    split at h
    · split at h
      · rename_i hk'
        obtain rfl := eQ hk'
        simp only [Option.some.injEq, Prod.mk.injEq] at h
        simp only [RV] at ha hb
        have rha := ha
        try replace ha := ha.1
        have rhb := hb
        try replace hb := hb.1
        subst ha hb
        simp only [Instr.sameNow, if_true]
        rw [h.2]
      · simp at h
    · simp at h
  | struct fs => unfold fQ at hag; rw [bD, hu] at hag; simp at hag
  | array n el => unfold fQ at hag; rw [bD, hu] at hag; simp at hag
  | slice el => simp [scD] at hk
  | pointer el => simp [scD] at hk
  | _ => simp [eqNo] at h
theorem asking_ok {t : TypeId} {k : CV} {kv : Value} (hk : RV β k kv) : ∀ {es : List (CV × CV × Nat)} {rs : List MapEntry} {i : Nat} {r : Option (Nat × CV)}, RE β es rs → vP (tC P t) es k i = some r →
    ∃ r', (∀ w, (Instr.findAsking t kv rs i).run P w = .ok r' w) ∧ FRes β r r'
  | [], rs, i, r, he, h => by
    rw [show rs = [] from he]
    simp only [vP, Option.some.injEq] at h
    subst h
    exact ⟨none, fun w => rfl, rfl⟩
  | e :: es, rs, i, r, he, h => by
    obtain ⟨x, rs', rfl, h1, h2, h3, h4⟩ := he
    unfold vP at h
    split at h
    · rename_i hq
      obtain rfl := Option.some.inj h
      refine ⟨some (i, x.val), fun w => ?_, x.val, rfl, h2⟩
      simp only [Instr.findAsking, Sem.run_bind, (cmpQ_ok hk h1 hq).equ w, Result.andThen_ok, if_true, Sem.run_pure]
    · rename_i hq
      obtain ⟨r', k1, k2⟩ := asking_ok hk h4 h
      refine ⟨r', fun w => ?_, k2⟩
      simp only [Instr.findAsking, Sem.run_bind, (cmpQ_ok hk h1 hq).equ w, Result.andThen_ok, Bool.false_eq_true, if_false, k1 w]
    · simp at h
theorem now_ok {t : TypeId} {ty : TypeDesc} (hu : P.underlying t = some ty) (hag : fQ P t = some false) (hkk : scD ty = true) {k : CV} {kv : Value} (hk : RV β k kv) : ∀ {es : List (CV × CV × Nat)} {rs : List MapEntry} {i : Nat} {r : Option (Nat × CV)}, RE β es rs → vP (tC P t) es k i = some r →
    ∃ r', Instr.findNow ty kv rs i = some r' ∧ FRes β r r'
  | [], rs, i, r, he, h => by
    rw [show rs = [] from he]
    simp only [vP, Option.some.injEq] at h
    subst h
    exact ⟨none, rfl, rfl⟩
  | e :: es, rs, i, r, he, h => by
    obtain ⟨x, rs', rfl, h1, h2, h3, h4⟩ := he
    unfold vP at h
    split at h
    · rename_i hq
      obtain rfl := Option.some.inj h
      refine ⟨some (i, x.val), ?_, x.val, rfl, h2⟩
      simp only [Instr.findNow, cmpQ_now hu hag hk h1 hq hkk]
    · rename_i hq
      obtain ⟨r', k1, k2⟩ := now_ok hu hag hkk hk h4 h
      refine ⟨r', ?_, k2⟩
      simp only [Instr.findNow, cmpQ_now hu hag hk h1 hq hkk]
      exact k1
    · simp at h
theorem xJ {d : Nat} {t : TypeId} {ts : List Nat} (h : cZ P d t = some ts) : ∃ ty, P.underlying t = some ty ∧ ((fQ P t = some false ∧ scD ty = true) ∨ (∀ x y, Instr.sameNow ty x y = none)) := by
  cases d with
  | zero => simp [cZ] at h
  | succ d =>
    unfold cZ at h
    try simp only [bW, bD] at h
    split at h
    · rename_i hu; exact ⟨_, hu, Or.inl ⟨by unfold fQ; rw [bD, hu], rfl⟩⟩
    · rename_i hu; exact ⟨_, hu, Or.inl ⟨by unfold fQ; rw [bD, hu], rfl⟩⟩
    · rename_i k hu; exact ⟨_, hu, Or.inl ⟨by unfold fQ; rw [bD, hu], rfl⟩⟩
    · rename_i fs hu; exact ⟨_, hu, Or.inr (fun x y => rfl)⟩
    · rename_i n el hu; exact ⟨_, hu, Or.inr (fun x y => rfl)⟩
    · simp at h
theorem find_ok {t : TypeId} {ts : List Nat} (hc : cZ P 20 t = some ts) {k : CV} {kv : Value} (hk : RV β k kv) {es : List (CV × CV × Nat)} {rs : List MapEntry} {r : Option (Nat × CV)} (he : RE β es rs) (h : vP (tC P t) es k 0 = some r) :
    ∃ r', (∀ w, (Instr.findKey t kv rs).run P w = .ok r' w) ∧ FRes β r r' := by
  obtain ⟨ty, hu, hq | hq⟩ := xJ hc
  · obtain ⟨r', k1, k2⟩ := now_ok hu hq.1 hq.2 hk he h
    refine ⟨r', fun w => ?_, k2⟩
    simp only [Instr.findKey, Sem.run_bind, aF hu, Result.andThen_ok, k1, Sem.run_pure]
  · obtain ⟨r', k1, k2⟩ := asking_ok hk he h
    refine ⟨r', fun w => ?_, k2⟩
    simp only [Instr.findKey, Sem.run_bind, aF hu, Result.andThen_ok]
    cases rs with
    | nil =>
      have e := k1 w
      simp only [Instr.findAsking, Sem.run_pure] at e
      simp only [Instr.findNow, Sem.run_pure]
      exact e
    | cons x xs =>
      simp only [Instr.findNow, hq]
      exact k1 w
theorem key_ok {t : TypeId} {ts : List Nat} (hc : cZ P 20 t = some ts) {k : CV} {kv : Value} (hk : RV β k kv) (hq : keyC (knOf P t ts) k = true) (b : Bool) (w : World) : (Instr.checkKey b 10000 t kv).run P w = .ok () w := by
  obtain ⟨ty, hu, _⟩ := xJ hc
  have hz := oZ hc
  cases hag : fQ P t with
  | none => unfold fQ at hag; rw [bD, hu] at hag; cases ty <;> simp at hag
  | some ag =>
    cases ag with
    | true =>
      unfold knOf keyC at hq
      rw [hag] at hq
      simp only at hq
      split at hq
      · rename_i l
        have hl := Nat.eq_of_beq_eq_true hq
        obtain ⟨us, rfl, rl⟩ := hk
        obtain ⟨a, r1, r2⟩ := ck_ok hc 10000 (by omega) β l us 0 b w rl (by omega)
        simp only [part, Sem.run_bind, iF hag, Result.andThen_ok, if_true, bP hz, Sem.run_pure, Nat.zero_add] at r1
        rw [show us.extract 0 ts.length = us by rw [← hl, ← rl.len, Array.length_toList, Array.extract_size]] at r1
        obtain rfl := (Result.ok.inj r1).1
        exact r2
      · simp at hq
    | false =>
      refine check_plain (D := 9999) hu ?_ b kv w
      unfold fQ at hag
      try simp only [bW, bD] at hag
      rw [hu] at hag
      unfold cZ at hc
      try simp only [bW, bD] at hc
      rw [hu] at hc
      cases ty <;> first | rfl | (simp at hag; done) | (simp at hc; done)
theorem mapF_ok {m : CV} {es : List (CV × CV × Nat)} {mv : Value} (hm : RV β m mv) (h : mapF V m = some es) (hV : HV V β w) : (mv = .map none ∧ es = []) ∨ ∃ a rs clock, mv = .map (some a) ∧ w.heap[a]? = some (.map rs clock) ∧ RE β es rs.toList := by
  unfold mapF at h
  split at h
  · rename_i g
    split at h
    · rename_i es' clock hg
      obtain rfl := Option.some.inj h
      obtain ⟨a, ha, rfl⟩ := hm
      obtain ⟨a', rob, h1, h2, h3, _⟩ := hV.at_ g _ hg
      rw [ha] at h1
      obtain rfl := Option.some.inj h1
      obtain ⟨rs, rfl, hr⟩ := h3
      exact Or.inr ⟨a, rs, clock, rfl, h2, hr⟩
    · simp at h
  · obtain rfl := Option.some.inj h
    exact Or.inl ⟨hm, rfl⟩
  · simp at h
theorem RE.len : ∀ {es : List (CV × CV × Nat)} {rs : List MapEntry}, RE β es rs → rs.length = es.length
  | [], rs, h => by rw [show rs = [] from h]; rfl
  | _ :: _, _, ⟨x, rs', e, _, _, _, h⟩ => by rw [e]; simp [h.len]
theorem mLk_ok {t kt et : TypeId} {ts : List Nat} {ok : Bool} {z : CV} (ht : P.underlying t = some (.map kt et)) (hc : cZ P 20 kt = some ts) (hz : ∀ w, ∃ zv, (zeroValue et).run P w = .ok zv w ∧ RV β z zv) {m k : Operand} {f g : yZ} (hm : aX m = some f) (hk : aX k = some g) {fr : dV} {A : Act} {H : Tr HO} {nx : Nat} {out : Out} (hG : Gl β) (hF : RF β fr A) (h : mLk (tC P kt) (knOf P kt ts) z ok f g fr V H nx = some out) : vV P (vS (Instr.lookup t (A.eval m) (A.eval k) ok)) V β H nx out := by
  unfold mLk at h
  split at h
  · rename_i mc kc h1 h2
    have rm := aW hm hG hF h1
    have rk := aW hk hG hF h2
    split at h
    · rename_i es he hq
      split at h
      · rename_i r hr
        have main : ∀ w, HV V β w → ∃ r', FRes β r r' ∧ (Instr.lookup t (A.eval m) (A.eval k) ok).run P w = (match r' with | some (_, v) => (.ok (if ok then .tuple #[v, .bool true] else v) w : Result Value) | none => ((zeroValue et).run P w).andThen fun v w => .ok (if ok then .tuple #[v, .bool false] else v) w) := by
          intro w hV
          rcases mapF_ok rm he hV with ⟨e1, rfl⟩ | ⟨a, rs, clock, e1, e2, e3⟩
          · obtain ⟨r', k1, k2⟩ := find_ok (es := []) (rs := []) hc rk rfl hr
            refine ⟨r', k2, ?_⟩
            rw [e1]
            simp only [Instr.lookup, Sem.run_bind, aF ht, Result.andThen_ok, Sem.run_pure, key_ok hc rk hq, k1]
            cases r' with
            | none => simp
            | some p => obtain ⟨i, v⟩ := p; simp
          · obtain ⟨r', k1, k2⟩ := find_ok hc rk e3 hr
            refine ⟨r', k2, ?_⟩
            rw [e1]
            simp only [Instr.lookup, Sem.run_bind, aF ht, Result.andThen_ok, Sem.run_pure, kX e2, key_ok hc rk hq, k1]
            cases r' with
            | none => simp
            | some p => obtain ⟨i, v⟩ := p; simp
        split at h <;> obtain rfl := Option.some.inj h
        · rename_i x
          refine fP (fun w hV => ?_)
          obtain ⟨r', ⟨v, rfl, hv⟩, k2⟩ := main w hV
          exact ⟨.tuple #[v, .bool true], dH (by rw [k2]; rfl), ⟨_, rfl, v, _, rfl, hv, _, _, rfl, rfl, rfl⟩⟩
        · refine fP (fun w hV => ?_)
          obtain ⟨r', hr', k2⟩ := main w hV
          simp only [FRes] at hr'
          subst hr'
          obtain ⟨zv, z1, z2⟩ := hz w
          exact ⟨.tuple #[zv, .bool false], dH (by rw [k2]; simp [z1]), ⟨_, rfl, zv, _, rfl, z2, _, _, rfl, rfl, rfl⟩⟩
        · rename_i x
          refine fP (fun w hV => ?_)
          obtain ⟨r', ⟨v, rfl, hv⟩, k2⟩ := main w hV
          exact ⟨v, dH (by rw [k2]; rfl), hv⟩
        · refine fP (fun w hV => ?_)
          obtain ⟨r', hr', k2⟩ := main w hV
          simp only [FRes] at hr'
          subst hr'
          obtain ⟨zv, z1, z2⟩ := hz w
          exact ⟨zv, dH (by rw [k2]; simp [z1]), z2⟩
      · simp at h
    · simp at h
  · simp at h
theorem RE.snoc {es : List (CV × CV × Nat)} {k v : CV} {x : MapEntry} {n : Nat} (h1 : RV β k x.key) (h2 : RV β v x.val) (h3 : x.born = n) : ∀ {rs : List MapEntry}, RE β es rs → RE β (es ++ [(k, v, n)]) (rs ++ [x]) := by
  induction es with
  | nil => intro rs h; rw [show rs = [] from h]; exact ⟨x, [], rfl, h1, h2, h3, rfl⟩
  | cons e es ih =>
    intro rs h
    obtain ⟨y, rs', rfl, a1, a2, a3, a4⟩ := h
    exact ⟨y, rs' ++ [x], rfl, a1, a2, a3, ih a4⟩
theorem mUp_ok {t kt et : TypeId} {ts : List Nat} (ht : P.underlying t = some (.map kt et)) (hc : cZ P 20 kt = some ts) {m k x : Operand} {f g e : yZ} (hm : aX m = some f) (hk : aX k = some g) (hx : aX x = some e) {fr : dV} {A : Act} {H : Tr HO} {nx : Nat} {out : Out} (hG : Gl β) (hF : RF β fr A) (hlt : ∀ n, V n ≠ none → n < nx) (h : mUp (tC P kt) (knOf P kt ts) f g e fr V H nx = some out) : vV P (do Instr.mapUpdate t (A.eval m) (A.eval k) (A.eval x); pure .skip) V β H nx out := by
  unfold mUp at h
  split at h
  · rename_i gg kc xc h1 h2 h3
    have rm := aW hm hG hF h1
    have rk := aW hk hG hF h2
    have rx := aW hx hG hF h3
    split at h
    · rename_i es clock hg hq
      split at h
      · rename_i hr
        obtain rfl := Option.some.inj h
        refine yX hg (hlt _ (by rw [hg]; simp)) (fun w b rob hb1 hw hr0 hsz0 hV => ?_)
        obtain ⟨b', hb', he⟩ := rm
        rw [hb1] at hb'
        obtain rfl := Option.some.inj hb'
        obtain ⟨rs, rfl, hr1⟩ := hr0
        obtain ⟨r', k1, k2⟩ := find_ok hc rk hr1 hr
        simp only [FRes] at k2
        subst k2
        have hlt : b < w.heap.size := (Array.getElem?_eq_some_iff.1 hw).1
        refine ⟨undef, { w with heap := w.heap.setIfInBounds b (.map (rs.push { key := A.eval k, val := A.eval x, born := clock }) (clock + 1)) }, .map (rs.push { key := A.eval k, val := A.eval x, born := clock }) (clock + 1), Or.inr ⟨?_, rfl⟩, ?_, ⟨_, rfl, ?_⟩, rfl, fun k hk => ?_, by simp, rfl, rfl, rfl, ⟨#[], rfl, rfl⟩⟩
        · simp only [he, Instr.mapUpdate, Sem.run_bind, aF ht, Result.andThen_ok, kX hw, key_ok hc rk hq, k1, run_setMap hw, Sem.run_pure]
        · rw [Array.getElem?_setIfInBounds, if_pos rfl, if_pos hlt]
        · rw [Array.toList_push]; exact RE.snoc (x := { key := A.eval k, val := A.eval x, born := clock }) rk rx rfl hr1
        · rw [Array.getElem?_setIfInBounds, if_neg (fun e => hk e.symm)]
      · simp at h
    · simp at h
  · simp at h
theorem mMk_ok {t : TypeId} {fr : dV} {H : Tr HO} {nx : Nat} {out : Out} (h : mMk fr V H nx = some out) : vV P (vS (Instr.makeMap t none)) V β H nx out := by
  unfold mMk at h
  obtain rfl := Option.some.inj h
  exact oU (fun w hV => ⟨.map (some w.heap.size), { w with heap := w.heap.push (.map #[] 0) }, .map #[] 0, dH (by simp [Instr.makeMap, newObj, Sem.run]), rfl, rfl, rfl, rfl, fun β' hs hb hk => ⟨⟨#[], rfl, rfl⟩, ⟨_, hb, rfl⟩⟩⟩)
theorem mLn_ok {t kt et ty : TypeId} (ht : P.underlying t = some (.map kt et)) {m : Operand} {f : yZ} (hm : aX m = some f) {fr : dV} {A : Act} {H : Tr HO} {nx : Nat} {out : Out} (hG : Gl β) (hF : RF β fr A) (h : mLn f fr V H nx = some out) : vV P (vS (Builtin.len_ #[t] ty #[A.eval m])) V β H nx out := by
  unfold mLn at h
  split at h
  · rename_i mc h1
    have rm := aW hm hG hF h1
    split at h
    · rename_i es he
      obtain rfl := Option.some.inj h
      refine fP (fun w hV => ?_)
      rcases mapF_ok rm he hV with ⟨e1, rfl⟩ | ⟨a, rs, clock, e1, e2, e3⟩
      · exact ⟨.int .i64 0, dH (by rw [e1]; simp [Builtin.len_, aF ht, goInt]), rfl, nofun⟩
      · refine ⟨.int .i64 es.length, dH ?_, rfl, nofun⟩
        have hl : rs.size = es.length := by rw [← Array.length_toList, e3.len]
        rw [e1]
        simp only [Builtin.len_, Sem.run_bind, aF ht, Result.andThen_ok]
        simp [aF ht, kX e2, goInt, hl]
    · simp at h
  · simp at h
end
section
variable {P : Program} {β : Names} {V : Acc} {w : World}
theorem o6 {r : Nat} {m : Option Nat} {s l : Nat} {sn : Array Nat} (h : w.heap[r]? = some (.mapIter m s sn l)) : (getObj r).run P w = .ok (.mapIter m s sn l) w := run_getObj h (by intro _ _ _ h; cases h)
theorem run_setIter {r : Nat} {m : Option Nat} {s l : Nat} {sn : Array Nat} {o' : Obj} (h : w.heap[r]? = some (.mapIter m s sn l)) : (setObj r o').run P w = .ok () { w with heap := w.heap.setIfInBounds r o' } := run_setObj h (by intro _ _ _ h; cases h)
theorem nx_nil {r s l : Nat} {sn : Array Nat} {ty : TypeId} (hr : w.heap[r]? = some (.mapIter none s sn l)) : (Instr.next (.pointer (some ⟨r, 0, none⟩)) false ty).run P w = .ok (.tuple #[.bool false]) w := by
  simp only [Instr.next, Sem.run_bind, o6 hr, Result.andThen_ok, Sem.run_pure]
theorem nx_over {r m s l clock : Nat} {seen : List Nat} {L : List MapEntry} {ty : TypeId} (hr : w.heap[r]? = some (.mapIter (some m) s seen.toArray l)) (hb : w.heap[m]? = some (.map L.toArray clock)) (hf : L.filter (fun e => !seen.contains e.born) = []) (hc : (seen.isEmpty || L.isEmpty || L.any (fun e => decide (e.born < l))) = true) : (Instr.next (.pointer (some ⟨r, 0, none⟩)) false ty).run P w = .ok (.tuple #[.bool false]) w := by
  have hc' : (!seen.toArray.isEmpty && !L.toArray.isEmpty && L.toArray.all (fun e => decide (e.born ≥ l))) = false := by
    rw [List.isEmpty_toArray, List.isEmpty_toArray, List.all_toArray]
    revert hc
    cases seen.isEmpty <;> cases L.isEmpty <;> simp
  have hf' : L.toArray.filter (fun e => !seen.toArray.contains e.born) = #[] := by
    rw [List.filter_toArray]
    simp only [List.contains_toArray, hf]
  simp only [Instr.next, Sem.run_bind, o6 hr, kX hb, Result.andThen_ok, hc', Bool.false_eq_true, if_false, hf']
  have hq : (Question.mapNext 1).forced = true := by simp [Question.forced]
  simp [hq]
theorem nx_one {r m s l clock : Nat} {seen : List Nat} {L : List MapEntry} {e : MapEntry} {ty : TypeId} (hr : w.heap[r]? = some (.mapIter (some m) s seen.toArray l)) (hb : w.heap[m]? = some (.map L.toArray clock)) (hf : L.filter (fun e => !seen.contains e.born) = [e]) (he : e.born < s) (hc : (seen.isEmpty || L.any (fun e => decide (e.born < l))) = true) : (Instr.next (.pointer (some ⟨r, 0, none⟩)) false ty).run P w = .ok (.tuple #[.bool true, e.key, e.val]) { w with heap := w.heap.setIfInBounds r (.mapIter (some m) s (seen ++ [e.born]).toArray clock) } := by
  have hc' : (!seen.toArray.isEmpty && !L.toArray.isEmpty && L.toArray.all (fun e => decide (e.born ≥ l))) = false := by
    rw [List.isEmpty_toArray, List.isEmpty_toArray, List.all_toArray]
    revert hc
    cases seen.isEmpty <;> cases L.isEmpty <;> simp
  have hf' : L.toArray.filter (fun e => !seen.toArray.contains e.born) = #[e] := by
    rw [List.filter_toArray]
    simp only [List.contains_toArray, hf]
  have h1 : #[e].filter (fun e => decide (e.born < s)) = #[e] := by simp [he]
  have h2 : #[e].filter (fun e => decide (e.born ≥ s)) = #[] := by simp [he]
  simp only [Instr.next, Sem.run_bind, o6 hr, kX hb, Result.andThen_ok, hc', Bool.false_eq_true, if_false, hf', h1, h2]
  have hq : (Question.mapNext 1).forced = true := by simp [Question.forced]
  simp [hq, run_setIter hr]
theorem RE.filt {p : Nat → Bool} : ∀ {es : List (CV × CV × Nat)} {rs : List MapEntry}, RE β es rs → RE β (es.filter fun e => p e.2.2) (rs.filter fun x => p x.born)
  | [], _, h => by rw [show _ = [] from h]; rfl
  | e :: es, _, ⟨x, rs', rfl, h1, h2, h3, h4⟩ => by
    have ih := h4.filt (p := p)
    rw [List.filter_cons, List.filter_cons, h3]
    cases p e.2.2 with
    | false => exact ih
    | true => exact ⟨x, _, rfl, h1, h2, h3, ih⟩
theorem RE.any {p : Nat → Bool} : ∀ {es : List (CV × CV × Nat)} {rs : List MapEntry}, RE β es rs → (es.any fun e => p e.2.2) = rs.any fun x => p x.born
  | [], _, h => by rw [show _ = [] from h]; rfl
  | e :: es, _, ⟨x, rs', rfl, h1, h2, h3, h4⟩ => by rw [List.any_cons, List.any_cons, h3, h4.any]
theorem RE.nil {es : List (CV × CV × Nat)} {rs : List MapEntry} (h : RE β es rs) : es.isEmpty = rs.isEmpty := by
  cases es with
  | nil => rw [show rs = [] from h]; rfl
  | cons e es => obtain ⟨x, rs', rfl, _⟩ := h; rfl
theorem RE.find {p : Nat → Bool} {e : CV × CV × Nat} : ∀ {es : List (CV × CV × Nat)} {rs : List MapEntry}, RE β es rs → (es.find? fun e => p e.2.2) = some e → ∃ x, (rs.find? fun x => p x.born) = some x ∧ RV β e.1 x.key ∧ RV β e.2.1 x.val
  | [], _, h, hf => by simp at hf
  | d :: es, _, ⟨x, rs', rfl, h1, h2, h3, h4⟩, hf => by
    rw [List.find?_cons] at hf ⊢
    rw [h3]
    cases hp : p d.2.2 with
    | true => rw [hp] at hf; obtain rfl := Option.some.inj hf; exact ⟨x, rfl, h1, h2⟩
    | false => rw [hp] at hf; exact h4.find hf
theorem beq_nat (a b : Nat) : Nat.beq a b = (a == b) := by
  cases h : Nat.beq a b with
  | true => rw [Nat.eq_of_beq_eq_true h]; simp
  | false => exact (beq_eq_false_iff_ne.2 (fun e => by subst e; rw [Nat.beq_refl] at h; simp at h)).symm
theorem blt_dec (a b : Nat) : Nat.blt a b = decide (a < b) := by
  cases h : Nat.blt a b with
  | true => exact (decide_eq_true (Nat.blt_eq ▸ h)).symm
  | false => exact (decide_eq_false (fun hl => by rw [Eq.mpr Nat.blt_eq hl] at h; simp at h)).symm
theorem mRg_ok {t kt et : TypeId} (ht : P.underlying t = some (.map kt et)) {m : Operand} {f : yZ} (hm : aX m = some f) {fr : dV} {A : Act} {H : Tr HO} {nx : Nat} {out : Out} (hG : Gl β) (hF : RF β fr A) (h : mRg f fr V H nx = some out) : vV P (vS (Instr.range t (A.eval m))) V β H nx out := by
  unfold mRg at h
  split at h
  · rename_i g h1
    obtain ⟨b, hb, he⟩ := aW hm hG hF h1
    split at h
    · rename_i es clock hg
      obtain rfl := Option.some.inj h
      refine oU (fun w hV => ?_)
      obtain ⟨b', rob, k1, k2, ⟨rs, rfl, k3⟩, _⟩ := hV.at_ g _ hg
      rw [hb] at k1
      obtain rfl := Option.some.inj k1
      refine ⟨.pointer (some ⟨w.heap.size, 0, none⟩), { w with heap := w.heap.push (.mapIter (some b) clock #[] clock) }, .mapIter (some b) clock #[] clock, dH ?_, rfl, rfl, rfl, rfl, fun β' hs hb' hk => ⟨⟨some b, rfl, b, (hs.nm _ _ hb).1, rfl⟩, ⟨_, hb', rfl⟩⟩⟩
      rw [he]
      simp [Instr.range, aF ht, kX k2, newObj, Sem.run]
    · simp at h
  · rename_i h1
    have he := aW hm hG hF h1
    simp only [RV] at he
    obtain rfl := Option.some.inj h
    refine oU (fun w hV => ?_)
    refine ⟨.pointer (some ⟨w.heap.size, 0, none⟩), { w with heap := w.heap.push (.mapIter none 0 #[] 0) }, .mapIter none 0 #[] 0, dH ?_, rfl, rfl, rfl, rfl, fun β' hs hb' hk => ⟨⟨none, rfl, rfl⟩, ⟨_, hb', rfl⟩⟩⟩
    rw [he]
    simp [Instr.range, aF ht, newObj, Sem.run]
  · simp at h
theorem mNx_ok {x : Operand} {ty : TypeId} {f : yZ} (hx : aX x = some f) {fr : dV} {A : Act} {H : Tr HO} {nx : Nat} {out : Out} (hG : Gl β) (hF : RF β fr A) (hlt : ∀ n, V n ≠ none → n < nx) (h : mNx f fr V H nx = some out) : vV P (vS (Instr.next (A.eval x) false ty)) V β H nx out := by
  unfold mNx at h
  split at h
  · rename_i g h1
    obtain ⟨b, hb, he⟩ := aW hx hG hF h1
    split at h
    · rename_i hg
      obtain rfl := Option.some.inj h
      refine fP (fun w hV => ?_)
      obtain ⟨b', rob, k1, k2, ⟨m', rfl, k3⟩, _⟩ := hV.at_ g _ hg
      rw [hb] at k1
      obtain rfl := Option.some.inj k1
      subst k3
      exact ⟨.tuple #[.bool false], dH (by rw [he]; exact nx_nil k2), ⟨_, rfl, _, _, rfl, rfl, rfl⟩⟩
    · rename_i m since seen last hg
      split at h
      · rename_i es clock hm
        have both : ∀ w, HV V β w → ∃ a L, w.heap[b]? = some (.mapIter (some a) since seen.toArray last) ∧ w.heap[a]? = some (.map (List.toArray L) clock) ∧ RE β es L ∧ β.ad m = some a := by
          intro w hV
          obtain ⟨b', rob, k1, k2, ⟨m', rfl, a, k3, rfl⟩, _⟩ := hV.at_ g _ hg
          rw [hb] at k1
          obtain rfl := Option.some.inj k1
          obtain ⟨a', rob', l1, l2, ⟨rs, rfl, l3⟩, _⟩ := hV.at_ m _ hm
          rw [k3] at l1
          obtain rfl := Option.some.inj l1
          exact ⟨a, rs.toList, k2, l2, l3, k3⟩
        split at h
        · rename_i hl
          split at h
          · rename_i hc
            obtain rfl := Option.some.inj h
            refine fP (fun w hV => ?_)
            obtain ⟨a, L, k1, k2, k3, k4⟩ := both w hV
            have hfl := k3.filt (p := fun n => !seen.contains n)
            rw [hl] at hfl
            rw [k3.nil, k3.any (p := fun n => Nat.blt n last)] at hc
            simp only [blt_dec] at hc
            exact ⟨.tuple #[.bool false], dH (by rw [he]; exact nx_over k1 k2 hfl hc), ⟨_, rfl, _, _, rfl, rfl, rfl⟩⟩
          · simp at h
        · rename_i e hl
          split at h
          · rename_i hc
            obtain rfl := Option.some.inj h
            simp only [Bool.and_eq_true] at hc
            refine yX hg (hlt _ (by rw [hg]; simp)) (fun w b' rob hb1 hw hr0 hsz0 hV => ?_)
            obtain ⟨a, L, k1, k2, k3, k4⟩ := both w hV
            rw [hb] at hb1
            obtain rfl := Option.some.inj hb1
            rw [hw] at k1
            obtain rfl := Option.some.inj k1
            have hfl := k3.filt (p := fun n => !seen.contains n)
            rw [hl] at hfl
            obtain ⟨y, rs', q1, q2, q3, q4, q5⟩ := hfl
            rw [show rs' = [] from q5] at q1
            have hlt' : b < w.heap.size := (Array.getElem?_eq_some_iff.1 hw).1
            have hc2 := hc.2
            rw [k3.any (p := fun n => Nat.blt n last)] at hc2
            simp only [blt_dec] at hc2
            refine ⟨.tuple #[.bool true, y.key, y.val], { w with heap := w.heap.setIfInBounds b (.mapIter (some a) since (seen ++ [y.born]).toArray clock) }, .mapIter (some a) since (seen ++ [y.born]).toArray clock, Or.inl (dH (by rw [he]; exact nx_one hw k2 q1 (by rw [q4]; exact (Nat.blt_eq ▸ hc.1)) hc2)), ?_, ⟨some a, by rw [q4], a, k4, rfl⟩, rfl, fun k hk => ?_, by simp, rfl, rfl, rfl, ⟨_, rfl, _, _, rfl, rfl, _, _, rfl, q2, _, _, rfl, q3, rfl⟩⟩
            · show (w.heap.setIfInBounds b _)[b]? = _
              rw [Array.getElem?_setIfInBounds, if_pos rfl, if_pos hlt']
            · show (w.heap.setIfInBounds b _)[k]? = _
              rw [Array.getElem?_setIfInBounds, if_neg (fun e => hk e.symm)]
          · simp at h
        · simp at h
      · simp at h
    · simp at h
  · simp at h
theorem mEn_ok {x : Operand} {f : yZ} (hx : aX x = some f) {fr : dV} {A : Act} {H : Tr HO} {nx : Nat} {out : Out} (hG : Gl β) (hF : RF β fr A) (h : mEn f fr V H nx = some out) : vV P (vS (Instr.entry (A.eval x))) V β H nx out := by
  unfold mEn at h
  split at h
  · rename_i g h1
    obtain ⟨b, hb, he⟩ := aW hx hG hF h1
    split at h
    · rename_i m since seen stepped hg
      split at h
      · rename_i stamp es clock hst hm
        split at h
        · rename_i e hc hfi
          obtain rfl := Option.some.inj h
          have hc := Nat.eq_of_beq_eq_true hc
          refine fP (fun w hV => ?_)
          obtain ⟨b', rob, k1, k2, ⟨m', rfl, a, k3, rfl⟩, _⟩ := hV.at_ g _ hg
          rw [hb] at k1
          obtain rfl := Option.some.inj k1
          obtain ⟨a', rob', l1, l2, ⟨rs, rfl, l3⟩, _⟩ := hV.at_ m _ hm
          rw [k3] at l1
          obtain rfl := Option.some.inj l1
          obtain ⟨y, q1, q2, q3⟩ := l3.find (p := fun n => Nat.beq n stamp) hfi
          refine ⟨.tuple #[y.key, y.val], dH ?_, ⟨_, rfl, _, _, rfl, q2, _, _, rfl, q3, rfl⟩⟩
          have hbk : seen.toArray.back? = some stamp := by rw [List.back?_toArray]; exact hst
          have hfd : rs.find? (fun e => e.born == stamp) = some y := by
            rw [← Array.find?_toList]; simpa only [beq_nat] using q1
          subst hc
          rw [he]
          simp only [Instr.entry, Sem.run_bind, o6 k2, kX l2, Result.andThen_ok, hbk, bne_self_eq_false, Bool.false_eq_true, if_false, hfd, Sem.run_pure]
        · simp at h
      · simp at h
    · simp at h
  · simp at h
end
section
variable {P : Program} {β : Names} {V : Acc} {w : World}
theorem zeroV_ok {t : TypeId} {z : CV} (h : zeroV P t = some z) (w : World) : ∃ v, (zeroValue t).run P w = .ok v w ∧ RV β z v := by
  unfold zeroV at h
  try simp only [bW, bD] at h
  split at h
  · rename_i i hi
    split at h
    · rename_i v hv
      exact ⟨v, by simp [zeroValue, typeInfo, hi, hv], ofV_ok h⟩
    · simp at h
  · simp at h
theorem m3_ok {F : yZ → yZ → yZ → MF} {x y z : Operand} {f : MF} (h : m3 F (aX x) (aX y) (aX z) = some f) : ∃ a b c, aX x = some a ∧ aX y = some b ∧ aX z = some c ∧ f = F a b c := by
  cases ha : aX x with
  | none => rw [ha] at h; simp [m3] at h
  | some a =>
    cases hb : aX y with
    | none => rw [ha, hb] at h; simp [m3] at h
    | some b =>
      cases hc : aX z with
      | none => rw [ha, hb, hc] at h; simp [m3] at h
      | some c => rw [ha, hb, hc] at h; simp only [m3, Option.some.injEq] at h; exact ⟨a, b, c, rfl, rfl, rfl, h.symm⟩
theorem cmpUp_ok {t : TypeId} {m k x : Operand} {f : MF} (h : cmpUp P t (aX m) (aX k) (aX x) = some f) {fr : dV} {A : Act} {H : Tr HO} {nx : Nat} {out : Out} (hG : Gl β) (hF : RF β fr A) (hlt : ∀ n, V n ≠ none → n < nx) (hr : f fr V H nx = some out) : vV P (do Instr.mapUpdate t (A.eval m) (A.eval k) (A.eval x); pure .skip) V β H nx out := by
  unfold cmpUp at h
  try simp only [bW, bD] at h
  split at h
  · rename_i kt et hu
    split at h
    · rename_i ts hc
      obtain ⟨a, b, c, h1, h2, h3, rfl⟩ := m3_ok h
      exact mUp_ok hu hc h1 h2 h3 hG hF hlt hr
    · simp at h
  · simp at h
theorem cmpM_ok {op : Op} {f : MF} (h : cmpM P op = some f) {o : Oper} (ho : o.op = op) {fr : dV} {A : Act} {H : Tr HO} {nx : Nat} {out : Out} (hG : Gl β) (hF : RF β fr A) (hlt : ∀ n, V n ≠ none → n < nx) (hr : f fr V H nx = some out) : vV P (execOp A.eval o) V β H nx out := by
  unfold cmpM at h
  try simp only [bW, bD] at h
  split at h
  · rename_i t a x
    split at h
    · rename_i n hz
      obtain ⟨p, q, h1, h2, rfl⟩ := m2_ok h
      exact mSt_ok hz h1 h2 ho hG hF hlt hr
    · simp at h
  · rename_i s d x
    have e0 : execOp A.eval o = vS (convert s d (A.eval x)) := by unfold execOp; rw [ho]; rfl
    rw [e0]
    unfold cmpCs at h
    try simp only [bW, bD] at h
    split at h
    · rename_i e hs hd
      split at h
      · rename_i he
        obtain ⟨p, h1, rfl⟩ := m1_ok h
        exact mB2s_ok hs he hd h1 hG hF hr
      · simp at h
    · rename_i e hs hd
      split at h
      · rename_i he
        obtain ⟨p, h1, rfl⟩ := m1_ok h
        exact mS2b_ok hs hd he h1 hG hF hr
      · simp at h
    · simp at h
  · rename_i a x t t'
    obtain ⟨cs, e0⟩ := rJ (A := A) ho
    rw [e0, arr2]
    show vV P (vS (Builtin.append_ #[t, t'] o.type #[A.eval a, A.eval x])) V β H nx out
    unfold cmpAp at h
    try simp only [bW, bD] at h
    split at h
    · rename_i e e' hu hu'
      split at h
      · rename_i i z hi hz
        split at h
        · rename_i hb
          simp only [Bool.and_eq_true] at hb
          obtain ⟨p, q, h1, h2, rfl⟩ := m2_ok h
          exact mAp_ok hu hu' hi hz (Nat.eq_of_beq_eq_true hb.2) (dK hb.1) h1 h2 hG hF hlt hr
        · simp at h
      · simp at h
    · simp at h
  · rename_i a x t ts
    obtain ⟨cs, e0⟩ := rJ (A := A) ho
    rw [e0, arr2]
    show vV P (vS (Builtin.copy_ ⟨t :: ts⟩ o.type #[A.eval a, A.eval x])) V β H nx out
    unfold cmpCp at h
    try simp only [bW, bD] at h
    split at h
    · rename_i e hu
      split at h
      · rename_i s hs
        obtain ⟨p, q, h1, h2, rfl⟩ := m2_ok h
        exact mCp_ok (tx := t) hu hs h1 h2 (by simp) hG hF hlt hr
      · simp at h
    · simp at h
  · rename_i x t
    obtain ⟨cs, e0⟩ := rJ (A := A) ho
    rw [e0, arr1]
    show vV P (vS (Builtin.len_ #[t] o.type #[A.eval x])) V β H nx out
    split at h
    · rename_i kt et hu
      obtain ⟨p, h1, rfl⟩ := m1_ok h
      exact mLn_ok hu h1 hG hF hr
    · simp at h
  · rename_i t
    have e0 : execOp A.eval o = vS (Instr.makeMap t none) := by unfold execOp; rw [ho]; rfl
    rw [e0]
    obtain rfl := Option.some.inj h
    exact mMk_ok hr
  · rename_i t m k ok
    have e0 : execOp A.eval o = vS (Instr.lookup t (A.eval m) (A.eval k) ok) := by unfold execOp; rw [ho]; rfl
    rw [e0]
    unfold cmpLk at h
    try simp only [bW, bD] at h
    split at h
    · rename_i kt et hu
      split at h
      · rename_i z ts hz hc
        obtain ⟨p, q, h1, h2, rfl⟩ := m2_ok h
        exact mLk_ok hu hc (zeroV_ok hz) h1 h2 hG hF hr
      · simp at h
    · simp at h
  · rename_i t m k x
    have e0 : execOp A.eval o = (do Instr.mapUpdate t (A.eval m) (A.eval k) (A.eval x); pure .skip) := by unfold execOp; rw [ho]
    rw [e0]
    exact cmpUp_ok h hG hF hlt hr
  · rename_i t m k x
    have e0 : execOp A.eval o = (do Instr.mapUpdate t (A.eval m) (A.eval k) (A.eval x); pure .skip) := by unfold execOp; rw [ho]
    rw [e0]
    exact cmpUp_ok h hG hF hlt hr
  · rename_i t x
    have e0 : execOp A.eval o = vS (Instr.range t (A.eval x)) := by unfold execOp; rw [ho]; rfl
    rw [e0]
    split at h
    · rename_i kt et hu
      obtain ⟨p, h1, rfl⟩ := m1_ok h
      exact mRg_ok hu h1 hG hF hr
    · simp at h
  · rename_i x
    have e0 : execOp A.eval o = vS (Instr.next (A.eval x) false o.type) := by unfold execOp; rw [ho]; rfl
    rw [e0]
    obtain ⟨p, h1, rfl⟩ := m1_ok h
    exact mNx_ok h1 hG hF hlt hr
  · rename_i x
    have e0 : execOp A.eval o = vS (Instr.entry (A.eval x)) := by unfold execOp; rw [ho]; rfl
    rw [e0]
    obtain ⟨p, h1, rfl⟩ := m1_ok h
    exact mEn_ok h1 hG hF hr
  · simp at h
end
section
variable {P : Program} {ac : Acc} {H : Tr HO} {nx : Nat}
theorem dS {v : CV} : nR ac H nx ⟨v, H, nx, []⟩ := ⟨Nat.le_refl _, fun _ _ _ => rfl, fun p hp => by simp at hp⟩
theorem yC {v : CV} {g : Nat} {o : HO} (h : ac g ≠ none) : nR ac H nx ⟨v, H.set g o, nx, [g]⟩ := by
  refine ⟨Nat.le_refl _, fun n _ hn => ?_, fun p hp => ?_⟩
  · rw [Tr.get_set, if_neg]
    rintro rfl
    simp at hn
  · simp only [List.mem_singleton] at hp
    subst hp; exact h
theorem uJ {v : CV} {o : HO} : nR ac H nx ⟨v, H.set nx o, nx + 1, []⟩ := by
  refine ⟨Nat.le_succ _, fun n hn _ => ?_, fun p hp => by simp at hp⟩
  rw [Tr.get_set, if_neg]
  rintro rfl
  exact hn ⟨Nat.le_refl _, Nat.lt_succ_self _⟩
theorem frc_move {v : CV} {o : HO} {g : Nat} (h : ac g ≠ none) : nR ac H nx ⟨v, (H.del g).set nx o, nx + 1, [g]⟩ := by
  refine ⟨Nat.le_succ _, fun n hn hg => ?_, fun p hp => ?_⟩
  · rw [Tr.get_set, if_neg, Tr.get_del, if_neg]
    · rintro rfl; simp at hg
    · rintro rfl
      exact hn ⟨Nat.le_refl _, Nat.lt_succ_self _⟩
  · simp only [List.mem_singleton] at hp
    subst hp; exact h
theorem isS {α : Type} {o : Option α} {x : α} (h : o = some x) : o ≠ none := by rw [h]; simp
theorem frSt {n : Nat} {a x : yZ} {fr : dV} {out : Out} (h : mSt n a x fr ac H nx = some out) : nR ac H nx out := by
  unfold mSt at h
  split at h
  · split at h
    · rename_i hg
      split at h
      · obtain rfl := Option.some.inj h; exact yC (isS hg)
      · simp at h
    · simp at h
  · simp at h
theorem frApNew {e : TypeId} {s b n : Nat} {l : List CV} {out : Out} (h : yY e s b H nx n l = some out) : nR ac H nx out := by
  unfold yY at h
  split at h
  · obtain rfl := Option.some.inj h; exact uJ
  · simp at h
theorem frApAt {e e' : TypeId} {s b g o m c lo n : Nat} {cs new : List CV} {r : Bool} {out : Out} (hg : ac g ≠ none) (h : apAt e s b H nx g o m c lo cs e' r n new = some out) : nR ac H nx out := by
  unfold apAt at h
  split at h
  · split at h
    · obtain rfl := Option.some.inj h; exact dS
    · split at h
      · obtain rfl := Option.some.inj h; exact yC hg
      · simp at h
  · split at h
    · split at h
      · exact frApNew h
      · split at h
        · split at h
          · rename_i x hx
            obtain rfl := Option.some.inj h
            unfold yY at hx
            split at hx
            · obtain rfl := Option.some.inj hx; exact frc_move hg
            · simp at hx
          · simp at h
        · simp at h
    · simp at h
theorem frAp {e : TypeId} {s b : Nat} {a x : yZ} {fr : dV} {out : Out} (h : mAp e s b a x fr ac H nx = some out) : nR ac H nx out := by
  unfold mAp at h
  split at h
  · split at h
    · split at h
      · split at h
        · split at h
          · split at h
            · obtain rfl := Option.some.inj h; exact dS
            · exact frApNew h
          · split at h
            · rename_i hg
              exact frApAt (isS hg) h
            · simp at h
          · simp at h
        · simp at h
      · simp at h
    · simp at h
  · simp at h
theorem frCp {s : Nat} {a x : yZ} {fr : dV} {out : Out} (h : mCp s a x fr ac H nx = some out) : nR ac H nx out := by
  unfold mCp at h
  split at h
  · split at h
    · split at h
      · split at h
        · obtain rfl := Option.some.inj h; exact dS
        · split at h
          · rename_i hg
            split at h
            · obtain rfl := Option.some.inj h; exact yC (isS hg)
            · simp at h
          · simp at h
        · simp at h
      · simp at h
    · simp at h
  · simp at h
theorem frB2s {a : yZ} {fr : dV} {out : Out} (h : mB2s a fr ac H nx = some out) : nR ac H nx out := by
  unfold mB2s at h
  split at h
  · split at h
    · split at h
      · split at h
        · obtain rfl := Option.some.inj h; exact dS
        · split at h
          · obtain rfl := Option.some.inj h; exact dS
          · simp at h
      · simp at h
    · simp at h
  · simp at h
theorem frS2b {e : TypeId} {a : yZ} {fr : dV} {out : Out} (h : mS2b e a fr ac H nx = some out) : nR ac H nx out := by
  unfold mS2b at h
  split at h
  · obtain rfl := Option.some.inj h; exact uJ
  · simp at h
theorem frMk {fr : dV} {out : Out} (h : mMk fr ac H nx = some out) : nR ac H nx out := by
  unfold mMk at h
  obtain rfl := Option.some.inj h
  exact uJ
theorem frLk {q : EqF} {kn : Option Nat} {z : CV} {ok : Bool} {m k : yZ} {fr : dV} {out : Out} (h : mLk q kn z ok m k fr ac H nx = some out) : nR ac H nx out := by
  unfold mLk at h
  split at h
  · split at h
    · split at h
      · split at h <;> (obtain rfl := Option.some.inj h; exact dS)
      · simp at h
    · simp at h
  · simp at h
theorem frUp {q : EqF} {kn : Option Nat} {m k x : yZ} {fr : dV} {out : Out} (h : mUp q kn m k x fr ac H nx = some out) : nR ac H nx out := by
  unfold mUp at h
  split at h
  · split at h
    · rename_i hg _
      split at h
      · obtain rfl := Option.some.inj h; exact yC (isS hg)
      · simp at h
    · simp at h
  · simp at h
theorem frLn {m : yZ} {fr : dV} {out : Out} (h : mLn m fr ac H nx = some out) : nR ac H nx out := by
  unfold mLn at h
  split at h
  · split at h
    · obtain rfl := Option.some.inj h; exact dS
    · simp at h
  · simp at h
theorem frRg {m : yZ} {fr : dV} {out : Out} (h : mRg m fr ac H nx = some out) : nR ac H nx out := by
  unfold mRg at h
  split at h
  · split at h
    · obtain rfl := Option.some.inj h; exact uJ
    · simp at h
  · obtain rfl := Option.some.inj h; exact uJ
  · simp at h
theorem frNx {x : yZ} {fr : dV} {out : Out} (h : mNx x fr ac H nx = some out) : nR ac H nx out := by
  unfold mNx at h
  split at h
  · split at h
    · obtain rfl := Option.some.inj h; exact dS
    · rename_i hg
      split at h
      · split at h
        · split at h
          · obtain rfl := Option.some.inj h; exact dS
          · simp at h
        · split at h
          · obtain rfl := Option.some.inj h; exact yC (isS hg)
          · simp at h
        · simp at h
      · simp at h
    · simp at h
  · simp at h
theorem frEn {x : yZ} {fr : dV} {out : Out} (h : mEn x fr ac H nx = some out) : nR ac H nx out := by
  unfold mEn at h
  split at h
  · split at h
    · split at h
      · split at h
        · obtain rfl := Option.some.inj h; exact dS
        · simp at h
      · simp at h
    · simp at h
  · simp at h
theorem m1_fr {F : yZ → MF} {x : Option yZ} {f : MF} (h : m1 F x = some f) (k : ∀ a fr out, F a fr ac H nx = some out → nR ac H nx out) {fr : dV} {out : Out} (hr : f fr ac H nx = some out) : nR ac H nx out := by
  cases x with
  | none => simp [m1] at h
  | some a => simp only [m1, Option.some.injEq] at h; subst h; exact k a fr out hr
theorem m2_fr {F : yZ → yZ → MF} {x y : Option yZ} {f : MF} (h : m2 F x y = some f) (k : ∀ a b fr out, F a b fr ac H nx = some out → nR ac H nx out) {fr : dV} {out : Out} (hr : f fr ac H nx = some out) : nR ac H nx out := by
  cases x with
  | none => simp [m2] at h
  | some a =>
    cases y with
    | none => simp [m2] at h
    | some b => simp only [m2, Option.some.injEq] at h; subst h; exact k a b fr out hr
theorem m3_fr {F : yZ → yZ → yZ → MF} {x y z : Option yZ} {f : MF} (h : m3 F x y z = some f) (k : ∀ a b c fr out, F a b c fr ac H nx = some out → nR ac H nx out) {fr : dV} {out : Out} (hr : f fr ac H nx = some out) : nR ac H nx out := by
  cases x with
  | none => simp [m3] at h
  | some a =>
    cases y with
    | none => simp [m3] at h
    | some b =>
      cases z with
      | none => simp [m3] at h
      | some c => simp only [m3, Option.some.injEq] at h; subst h; exact k a b c fr out hr
theorem cmpUp_fr {t : TypeId} {m k x : Option yZ} {f : MF} (h : cmpUp P t m k x = some f) {fr : dV} {out : Out} (hr : f fr ac H nx = some out) : nR ac H nx out := by
  unfold cmpUp at h
  try simp only [bW, bD] at h
  split at h
  · split at h
    · exact m3_fr h (fun _ _ _ _ _ => frUp) hr
    · simp at h
  · simp at h
theorem cmpM_fr {op : Op} {f : MF} (h : cmpM P op = some f) {fr : dV} {out : Out} (hr : f fr ac H nx = some out) : nR ac H nx out := by
  unfold cmpM at h
  try simp only [bW, bD] at h
  split at h
  · split at h
    · exact m2_fr h (fun _ _ _ _ => frSt) hr
    · simp at h
  · unfold cmpCs at h
    try simp only [bW, bD] at h
    split at h
    · split at h
      · exact m1_fr h (fun _ _ _ => frB2s) hr
      · simp at h
    · split at h
      · exact m1_fr h (fun _ _ _ => frS2b) hr
      · simp at h
    · simp at h
  · unfold cmpAp at h
    try simp only [bW, bD] at h
    split at h
    · split at h
      · split at h
        · exact m2_fr h (fun _ _ _ _ => frAp) hr
        · simp at h
      · simp at h
    · simp at h
  · unfold cmpCp at h
    try simp only [bW, bD] at h
    split at h
    · split at h
      · exact m2_fr h (fun _ _ _ _ => frCp) hr
      · simp at h
    · simp at h
  · split at h
    · exact m1_fr h (fun _ _ _ => frLn) hr
    · simp at h
  · obtain rfl := Option.some.inj h
    exact frMk hr
  · unfold cmpLk at h
    try simp only [bW, bD] at h
    split at h
    · split at h
      · exact m2_fr h (fun _ _ _ _ => frLk) hr
      · simp at h
    · simp at h
  · exact cmpUp_fr h hr
  · exact cmpUp_fr h hr
  · split at h
    · exact m1_fr h (fun _ _ _ => frRg) hr
    · simp at h
  · exact m1_fr h (fun _ _ _ => frNx) hr
  · exact m1_fr h (fun _ _ _ => frEn) hr
  · simp at h
end
section
variable {P : Program}
theorem opw_wp {o : Oper} {A : Act} {w : World} {K : Value → World → Prop} {next : Act → World → Prop} {Q : Exit → Act → World → Prop} (h : opw P (execOp A.eval o) w K) (hk : ∀ u w', K u w' → next (A.put o.dst u) w') : o.wp P A w next Q := by
  unfold Oper.wp
  unfold opw at h
  generalize (execOp A.eval o).run P w = r at *
  cases r with
  | halt x w' => exact h.elim
  | ok n w' =>
    cases n with
    | value v => exact hk _ _ h
    | skip => exact hk _ _ h
    | enter f args =>
      refine Calls.mono h (fun e w'' he => ?_)
      cases e with
      | returned v => exact hk _ _ he
      | _ => exact he.elim
    | _ => exact h.elim
theorem UpN.mono {S T : Nat → Prop} {w w' : World} (h : UpN S w w') (k : ∀ n, S n → T n) : UpN T w w' := ⟨h.os, h.tape, h.output, h.size, fun i hi hn => h.block i hi (fun hs => hn (k i hs))⟩
theorem jA {base : Nat} {g : Nat} : ∀ {l wr : List Nat}, g ∈ vX base l wr ↔ (g ∈ l ∧ g < base) ∨ g ∈ wr
  | [], wr => by simp [vX]
  | x :: l, wr => by
    unfold vX
    cases h : Nat.blt x base with
    | true =>
      have hx : x < base := Nat.blt_eq ▸ h
      simp only [List.mem_cons, jA (l := l)]
      constructor
      · rintro (rfl | h | h)
        · exact Or.inl ⟨Or.inl rfl, hx⟩
        · exact Or.inl ⟨Or.inr h.1, h.2⟩
        · exact Or.inr h
      · rintro (⟨rfl | h, h2⟩ | h)
        · exact Or.inl rfl
        · exact Or.inr (Or.inl ⟨h, h2⟩)
        · exact Or.inr (Or.inr h)
    | false =>
      have hx : ¬ x < base := fun hl => by rw [Eq.mpr Nat.blt_eq hl] at h; simp at h
      simp only [List.mem_cons, jA (l := l)]
      constructor
      · rintro (h | h)
        · exact Or.inl ⟨Or.inr h.1, h.2⟩
        · exact Or.inr h
      · rintro (⟨rfl | h, h2⟩ | h)
        · exact absurd h2 hx
        · exact Or.inl ⟨h, h2⟩
        · exact Or.inr h
theorem pK.step {β0 β β' : Names} {n0 m0 m1 : Nat} {wr puts : List Nat} {w0 w w' : World} (h : pK β0 β n0 m0 wr w0 w) (ht : pK β β' m0 m1 puts w w') (hp : ∀ p ∈ puts, p < m0) : pK β0 β' n0 m1 (vX n0 puts wr) w0 w' := by
  have up : ∀ a, Im β puts a → w0.heap.size ≤ a ∨ Im β0 (vX n0 puts wr) a := by
    rintro a ⟨p, hpp, ha⟩
    by_cases hl : p < n0
    · exact Or.inr ⟨p, jA.2 (Or.inl ⟨hpp, hl⟩), by rw [← (h.ext p (Or.inl hl)).1]; exact ha⟩
    · rcases h.born p a (by omega) (hp p hpp) ha with k | ⟨q, hq, k⟩
      · exact Or.inl k
      · exact Or.inr ⟨q, jA.2 (Or.inr hq), k⟩
  have wrs : ∀ a, Im β0 wr a → Im β0 (vX n0 puts wr) a := fun a ⟨q, hq, k⟩ => ⟨q, jA.2 (Or.inr hq), k⟩
  have l1 := h.le
  have l2 := ht.le
  refine ⟨fun n hn => ?_, fun s x hq => ht.sxm s x (h.sxm s x hq), fun a ha => ht.fpm a (h.fpm a ha), fun a ha => (ht.fpn a ha).elim (fun q => h.fpn a q) (fun q => Or.inr (Nat.le_trans h.upd.size q)), by omega, ?_, fun n a hn hm ha => ?_⟩
  · have e := ht.ext n (by omega)
    have k := h.ext n (by omega)
    exact ⟨e.1.trans k.1, e.2.trans k.2⟩
  · refine ⟨ht.upd.os.trans h.upd.os, ht.upd.tape.trans h.upd.tape, ht.upd.output.trans h.upd.output, Nat.le_trans h.upd.size ht.upd.size, fun k hk hn => ?_⟩
    rw [ht.upd.block k (Nat.lt_of_lt_of_le hk h.upd.size) (fun hs => ?_)]
    · exact h.upd.block k hk (fun hs => hn (wrs k hs))
    · rcases up k hs with q | q
      · omega
      · exact hn q
  · by_cases hb : m0 ≤ n
    · rcases ht.born n a hb hm ha with k | k
      · exact Or.inl (Nat.le_trans h.upd.size k)
      · exact up a k
    · have e := ht.ext n (by omega)
      rw [e.1] at ha
      exact (h.born n a hn (by omega) ha).imp id (wrs a)
theorem banned_lt {b : Nat} : ∀ {ban : List (Nat × Nat)} {g : Nat}, (∀ x ∈ ban, x.2 ≤ b) → banned ban g = true → g < b
  | [], _, _, h => by simp [banned] at h
  | (x, y) :: r, g, hb, h => by
    unfold banned at h
    simp only [Bool.or_eq_true, Bool.and_eq_true] at h
    rcases h with h | h
    · have h2 : g < y := Nat.blt_eq ▸ h.2
      have := hb (x, y) (by simp)
      simp only at this
      omega
    · exact banned_lt (fun z hz => hb z (by simp [hz])) h
theorem sO (ban : List (Nat × Nat)) (H : Tr HO) (g : Nat) : acc ban H g = if banned ban g = true then none else H.get g := by
  cases ban with
  | nil => simp [acc, banned]
  | cons b r =>
    unfold acc
    cases h : banned (b :: r) g <;> simp [h]
theorem aft_acc {ban : List (Nat × Nat)} {H : Tr HO} {nx : Nat} {out : Out} (hb : ∀ x ∈ ban, x.2 ≤ nx) (hf : nR (acc ban H) H nx out) : nS (acc ban H) out.H nx out.nx out.puts = acc ban out.H := by
  funext n
  unfold nS
  by_cases h : (nx ≤ n ∧ n < out.nx) ∨ n ∈ out.puts
  · rw [if_pos h, sO, if_neg]
    intro hn
    rcases h with h | h
    · have := banned_lt hb hn
      omega
    · have := hf.puts n h
      rw [sO, if_pos hn] at this
      exact this rfl
  · rw [if_neg h, sO, sO]
    rw [hf.keep n (fun k => h (Or.inl k)) (fun k => h (Or.inr k))]
structure Pu (n0 : Nat) (ban : List (Nat × Nat)) (H0 : Tr HO) (s : aP) : Prop where
  le : n0 ≤ s.nx
  bnd : ∀ x ∈ ban, x.2 ≤ n0
  dom : ∀ n, acc ban s.H n ≠ none → n < s.nx
  kp : ∀ n, n < n0 → n ∉ s.wr → s.H.get n = H0.get n
  kq : ∀ n, s.nx ≤ n → s.H.get n = H0.get n
  lg : ∀ p ∈ s.wr, p < n0 ∧ acc ban H0 p ≠ none
structure Inv (β0 : Names) (n0 N : Nat) (w0 : World) (ban : List (Nat × Nat)) (s : aP) (β : Names) (A : Act) (w : World) : Prop where
  gl : Gl β
  fr : RF β s.fr A
  size : A.tmps.size = N
  hv : HV (acc ban s.H) β w
  tr : pK β0 β n0 s.nx s.wr w0 w
  dfr : A.defers = []
theorem put_defs {A : Act} {d : Option Tmp} {v : Value} : (A.put d v).defers = A.defers := by cases d <;> rfl
theorem put_size {A : Act} {d : Option Tmp} {v : Value} : (A.put d v).tmps.size = A.tmps.size := by
  cases d <;> simp [Act.put]
theorem RF.put {β β' : Names} {fr : dV} {A : Act} (h : RF β fr A) (hs : Sub β β') {d : Option Tmp} (hd : ∀ t, d = some t → t < A.tmps.size) {c : CV} {u : Value} (hc : RV β' c u) : RF β' (setD fr (d.map way) c) (A.put d u) := by
  cases d with
  | none =>
    intro t x hx
    obtain ⟨v, h1, h2⟩ := h t x hx
    exact ⟨v, h1, h2.mono hs⟩
  | some d =>
    intro t x hx
    have e : (setD fr ((some d).map way) c).get t = (Tr.set fr d c).get t := rfl
    rw [e, Tr.get_set] at hx
    have hlt := hd d rfl
    by_cases hk : d = t
    · rw [if_pos hk] at hx
      obtain rfl := Option.some.inj hx
      subst hk
      exact ⟨u, by simp [Act.put, hlt], hc⟩
    · rw [if_neg hk] at hx
      obtain ⟨v, h1, h2⟩ := h t x hx
      exact ⟨v, by simp [Act.put, Array.getElem?_setIfInBounds_ne hk, h1], h2.mono hs⟩
theorem Pu.bans {n0 : Nat} {ban : List (Nat × Nat)} {H0 : Tr HO} {s : aP} (h : Pu n0 ban H0 s) : ∀ x ∈ ban, x.2 ≤ s.nx := fun x hx => Nat.le_trans (h.bnd x hx) h.le
theorem Pu.after {n0 : Nat} {ban : List (Nat × Nat)} {H0 : Tr HO} {s : aP} (h : Pu n0 ban H0 s) {out : Out} (hf : nR (acc ban s.H) s.H s.nx out) (fr : dV) : Pu n0 ban H0 ⟨fr, out.H, out.nx, vX n0 out.puts s.wr⟩ := by
  have hp : ∀ p ∈ out.puts, p < s.nx := fun p k => h.dom p (hf.puts p k)
  refine ⟨Nat.le_trans h.le hf.le, h.bnd, fun n hn => ?_, fun n hn hw => ?_, fun n hn => ?_, fun p hq => ?_⟩
  · show n < out.nx
    by_cases k : (s.nx ≤ n ∧ n < out.nx) ∨ n ∈ out.puts
    · rcases k with k | k
      · exact k.2
      · exact Nat.lt_of_lt_of_le (hp n k) hf.le
    · have e := hf.keep n (fun q => k (Or.inl q)) (fun q => k (Or.inr q))
      have hn2 : acc ban s.H n ≠ none := by
        rw [sO] at hn ⊢
        rw [← e]
        exact hn
      exact Nat.lt_of_lt_of_le (h.dom n hn2) hf.le
  · have k1 : n ∉ out.puts := fun q => hw (jA.2 (Or.inl ⟨q, hn⟩))
    have k2 : n ∉ s.wr := fun q => hw (jA.2 (Or.inr q))
    have := h.le
    exact (hf.keep n (by omega) k1).trans (h.kp n hn k2)
  · have hn' : out.nx ≤ n := hn
    have := hf.le
    exact (hf.keep n (by omega) (fun q => by have := hp n q; omega)).trans (h.kq n (by omega))
  · rcases jA.1 hq with q | q
    · refine ⟨q.2, ?_⟩
      by_cases hw : p ∈ s.wr
      · exact (h.lg p hw).2
      · have k := hf.puts p q.1
        rw [sO] at k ⊢
        rw [← h.kp p q.2 hw]
        exact k
    · exact h.lg p q
theorem Inv.fresh {β0 : Names} {n0 N : Nat} {w0 : World} {ban : List (Nat × Nat)} {s : aP} {β : Names} {A : Act} {w : World} (h : Inv β0 n0 N w0 ban s β A w) {top : Nat} (ht : mW β0 n0 top) : mW β s.nx top := fun n hn hl => by
  have := h.tr.le
  rw [(h.tr.ext n (Or.inr hn)).1]
  exact ht n (by omega) hl
theorem Inv.after {β0 : Names} {n0 N : Nat} {w0 : World} {ban : List (Nat × Nat)} {H0 : Tr HO} {s : aP} {β : Names} {A : Act} {w : World} (h : Inv β0 n0 N w0 ban s β A w) (pu : Pu n0 ban H0 s) {top : Nat} (ht : mW β0 n0 top) {d : Option Nat} {out : Out} (hd : ∀ t, d = some t → t < N) (hf : nR (acc ban s.H) s.H s.nx out) (hl : out.nx ≤ top) {β' : Names} {w' : World} {u : Value} (h1 : pK β β' s.nx out.nx out.puts w w') (h2 : RV β' out.v u) (h3 : HV (nS (acc ban s.H) out.H s.nx out.nx out.puts) β' w') : Inv β0 n0 N w0 ban ⟨setD s.fr (d.map way) out.v, out.H, out.nx, vX n0 out.puts s.wr⟩ β' (A.put d u) w' := by
  rw [aft_acc pu.bans hf] at h3
  have hs := h1.sub (fun n hn hm => h.fresh ht n hn (Nat.lt_of_lt_of_le hm hl))
  exact ⟨h.gl.mono hs, h.fr.put hs (fun t ht => by rw [h.size]; exact hd t ht) h2, by rw [put_size]; exact h.size, h3, h.tr.step h1 (fun p k => pu.dom p (hf.puts p k)), by rw [put_defs]; exact h.dfr⟩
theorem fB {s : Sem Next} {w : World} {K K' : Value → World → Prop} (h : opw P s w K) (hk : ∀ u w', K u w' → K' u w') : opw P s w K' := by
  unfold opw at *
  generalize s.run P w = r at *
  cases r with
  | halt x w' => exact h.elim
  | ok n w' =>
    cases n with
    | value v => exact hk _ _ h
    | skip => exact hk _ _ h
    | enter f args =>
      refine Calls.mono h (fun e w'' he => ?_)
      cases e with
      | returned v => exact hk _ _ he
      | _ => exact he.elim
    | _ => exact h.elim
theorem Inv.step {β0 : Names} {n0 N : Nat} {w0 : World} {ban : List (Nat × Nat)} {H0 : Tr HO} {s : aP} {β : Names} {A : Act} {w : World} (h : Inv β0 n0 N w0 ban s β A w) (pu : Pu n0 ban H0 s) {top : Nat} (ht : mW β0 n0 top) {o : Oper} {out : Out} (hd : ∀ t, o.dst = some t → t < N) (hl : out.nx ≤ top) (hf : nR (acc ban s.H) s.H s.nx out) (hm : OpS P (execOp A.eval o) (acc ban s.H) β s.nx out.v out.H out.nx out.puts) : opw P (execOp A.eval o) w (fun u w' => ∃ β', Inv β0 n0 N w0 ban ⟨setD s.fr (o.dst.map way) out.v, out.H, out.nx, vX n0 out.puts s.wr⟩ β' (A.put o.dst u) w') :=
  fB (hm w h.hv (fun n hn k => h.fresh ht n hn (Nat.lt_of_lt_of_le k hl))) (fun _ _ ⟨β', h1, h2, h3⟩ => ⟨β', h.after pu ht hd hf hl h1 h2 h3⟩)
end
theorem osK_ok {β : Names} {k : IntKind} : ∀ {ks : List CV} {zs : List Int} {us : List Value}, osK k ks = some zs → bJ β ks us → us = zs.map (Value.int k) ∧ ∀ z ∈ zs, k.wrap z = z
  | [], zs, us, h, hu => by
    simp only [osK, Option.some.injEq] at h
    subst h
    exact ⟨hu, fun z hz => by simp at hz⟩
  | x :: r, zs, us, h, hu => by
    obtain ⟨u, us', rfl, h1, h2⟩ := hu
    cases x with
    | int s kk z =>
      simp only [osK] at h
      split at h
      · rename_i l hr hl
        obtain rfl := Option.some.inj h
        rw [Bool.and_eq_true] at hr
        obtain rfl := eQ hr.1
        obtain ⟨e1, e2⟩ := osK_ok hl h2
        have hz := gJ hr.2 h1.2
        refine ⟨by rw [e1, h1.1]; rfl, fun y hy => ?_⟩
        rcases List.mem_cons.1 hy with rfl | hy
        · exact hz
        · exact e2 y hy
      · simp at h
    | _ => simp [osK] at h
section
variable {P : Program} {β : Names} {V : Acc} {w : World}
def Rws (β : Names) (cs : List aJ) (news : List Value) : Prop := news.length = 37 * cs.length ∧ ∀ (i : Nat) (c : aJ), cs[i]? = some c → CoinOk c ∧ ∃ s, wO β s c.x ∧ ∀ (k : Nat) (u : Value), (iH c s)[k]? = some u → news[37 * i + k]? = some u
theorem lZ (c : aJ) (s : Value) : (iH c s).length = 37 := by simp [iH]
theorem Rws.mono {β' : Names} {cs : List aJ} {news : List Value} (hs : Sub β β') (h : Rws β cs news) : Rws β' cs news :=
  ⟨h.1, fun i c hc => by
    obtain ⟨k1, s, k2, k3⟩ := h.2 i c hc
    exact ⟨k1, s, k2.mono hs, k3⟩⟩
theorem coinC_one {c : aJ} {s u : Value} (hs : ∃ b m, s = .slice b 4 m) (h : u ∈ iH c s) : u.oneCell' = true := by
  obtain ⟨b, m, rfl⟩ := hs
  unfold iH at h
  rcases List.mem_append.1 h with h | h
  · obtain ⟨j, _, rfl⟩ := List.mem_map.1 h; rfl
  · simp only [List.mem_cons, List.not_mem_nil, or_false] at h
    rcases h with rfl | rfl | rfl | rfl | rfl <;> rfl
theorem Rws.one {cs : List aJ} {news : List Value} (h : Rws β cs news) : ∀ u ∈ news, u.oneCell' = true := by
  intro u hu
  obtain ⟨j, hj⟩ := List.mem_iff_getElem?.1 hu
  have hl : j < 37 * cs.length := by rw [← h.1]; exact (List.getElem?_eq_some_iff.1 hj).1
  have hi : j / 37 < cs.length := by omega
  obtain ⟨_, s, k3, k4⟩ := h.2 (j / 37) _ (List.getElem?_eq_getElem hi)
  have k3 := k3.sl
  have hk : j % 37 < (iH cs[j / 37] s).length := by rw [lZ]; omega
  have := k4 (j % 37) _ (List.getElem?_eq_getElem hk)
  rw [show 37 * (j / 37) + j % 37 = j by omega, hj] at this
  rw [Option.some.inj this]
  exact coinC_one k3 (List.getElem_mem hk)
theorem Rws.append {a b : List aJ} {x y : List Value} (h : Rws β a x) (k : Rws β b y) : Rws β (a ++ b) (x ++ y) := by
  refine ⟨by rw [List.length_append, List.length_append, h.1, k.1]; omega, fun i c hc => ?_⟩
  by_cases hi : i < a.length
  · rw [List.getElem?_append_left hi] at hc
    obtain ⟨k1, s, k2, k4⟩ := h.2 i c hc
    refine ⟨k1, s, k2, fun j u hu => ?_⟩
    have hj : j < 37 := by rw [← lZ c s]; exact (List.getElem?_eq_some_iff.1 hu).1
    rw [List.getElem?_append_left (by rw [h.1]; omega)]
    exact k4 j u hu
  · rw [List.getElem?_append_right (by omega)] at hc
    obtain ⟨k1, s, k2, k4⟩ := k.2 _ c hc
    refine ⟨k1, s, k2, fun j u hu => ?_⟩
    rw [List.getElem?_append_right (by rw [h.1]; omega), h.1, show 37 * i + j - 37 * a.length = 37 * (i - a.length) + j by omega]
    exact k4 j u hu
theorem rws_cut {cs : List aJ} {us : Array Value} {e : TypeId} {fr : Nat × Nat} (hr : RO β (.rw cs) (.cells us e fr)) {o n : Nat} (hb : o + n ≤ cs.length) : Rws β ((cs.drop o).take n) (lH us (37 * o) (n * 37)) ∧ 37 * o + n * 37 ≤ us.size := by
  obtain ⟨us', e', lo, hi, he, h1, h2, h3⟩ := hr
  injection he with he1 he2 he3
  subst he1
  have hsz : 37 * o + n * 37 ≤ us.size := by omega
  refine ⟨⟨by rw [eY hsz, List.length_take, List.length_drop]; omega, fun i c hc => ?_⟩, hsz⟩
  have hi : i < n := by
    have := (List.getElem?_eq_some_iff.1 hc).1
    rw [List.length_take] at this; omega
  rw [List.getElem?_take_of_lt hi, List.getElem?_drop] at hc
  obtain ⟨k1, s, k2, k4⟩ := h3 (o + i) c hc
  refine ⟨k1, s, k2, fun k u hu => ?_⟩
  have hk : k < 37 := by rw [← lZ c s]; exact (List.getElem?_eq_some_iff.1 hu).1
  unfold lH
  rw [List.getElem?_take_of_lt (by omega), List.getElem?_drop, Array.getElem?_toList, show 37 * o + (37 * i + k) = 37 * (o + i) + k by omega]
  exact k4 k u hu
theorem ro_rws {cs : List aJ} {news : List Value} (h : Rws β cs news) (e : TypeId) (z : Array Value) : RO β (.rw cs) (.cells (news.toArray ++ z) e (0, 0)) := by
  refine ⟨_, e, 0, 0, rfl, by rw [Array.size_append, List.size_toArray, h.1]; omega, Or.inl rfl, fun i c hc => ?_⟩
  obtain ⟨k1, s, k2, k4⟩ := h.2 i c hc
  refine ⟨k1, s, k2, fun k u hu => ?_⟩
  have hk : k < 37 := by rw [← lZ c s]; exact (List.getElem?_eq_some_iff.1 hu).1
  have hi : i < cs.length := (List.getElem?_eq_some_iff.1 hc).1
  rw [Array.getElem?_append_left (by rw [List.size_toArray, h.1]; omega), List.getElem?_toArray]
  exact k4 k u hu
theorem src_xs {g o n c : Nat} {ex : Bool} {u : Value} {cs : List aJ} {tx e' : TypeId} (hk : P.underlying tx = some (.slice e')) (hu : RV β (.xs g o n c ex) u) (hg : V g = some (.rw cs)) (hb : o + n ≤ cs.length) (hV : HV V β w) : ∃ news, Src P 37 tx u n news w ∧ Rws β ((cs.drop o).take n) news := by
  obtain ⟨a, c', off, ha, rfl, q1, q2, q3, q4, q5⟩ := hu
  obtain ⟨a', rob, h1, h2, h3, _⟩ := hV.at_ g _ hg
  rw [ha] at h1
  obtain rfl := Option.some.inj h1
  have hr := h3
  obtain ⟨us, e, lo, hi, rfl, _⟩ := h3
  obtain ⟨k1, k2⟩ := rws_cut hr hb
  by_cases hn : n = 0
  · subst hn
    have e0 : (cs.drop o).take 0 = [] := by simp
    rw [e0]
    have hz : ∀ w' : World, (Builtin.firstCells 37 0 (.slice (some ⟨a, off, none⟩) 0 c')).run P w' = .ok ([] : List Value).toArray w' := fun w' => by
      have := run_loadCells_list (P := P) w' ⟨a, off, none⟩ [] (fun j v hj => by simp at hj)
      exact this
    exact ⟨[], ⟨Or.inl ⟨e', hk⟩, fun w' => rfl, hz w, hz w.drew, by simp, by simp⟩, by simp, fun i c hc => by simp at hc⟩
  · have hoff : off = 37 * o := q5.resolve_left (by omega)
    subst hoff
    have hl : ∀ w' : World, w'.heap = w.heap → (Builtin.firstCells 37 n (.slice (some ⟨a, 37 * o, none⟩) n c')).run P w' = .ok (lH us (37 * o) (n * 37)).toArray w' := fun w' hw' => loadR (by rw [hw']; exact h2) k2
    exact ⟨_, ⟨Or.inl ⟨e', hk⟩, fun w' => rfl, hl w rfl, hl w.drew rfl, eY k2, k1.one⟩, k1⟩
theorem row_nch {cs : List aJ} {us : List Value} (h : RowZ β (.c cs) us) {j : Nat} {u : Value} (hj : (us.take (37 * cs.length))[j]? = some u) : u ≠ .chan none := by
  rw [List.getElem?_take] at hj
  split at hj
  · rename_i hl
    have hi : j / 37 < cs.length := Nat.div_lt_of_lt_mul hl
    obtain ⟨_, s, ⟨a, off, c', us', rfl, _⟩, k3⟩ := h.2 (j / 37) _ (List.getElem?_eq_getElem hi)
    have hk : j % 37 < (iH cs[j / 37] (.slice (some ⟨a, off, none⟩) 4 c')).length := by
      have : (iH cs[j / 37] (.slice (some ⟨a, off, none⟩) 4 c')).length = 37 := by simp [iH]
      have := Nat.mod_lt j (show 0 < 37 by omega)
      omega
    have e := k3 (j % 37) _ (List.getElem?_eq_getElem hk)
    rw [Nat.div_add_mod, hj] at e
    obtain rfl := Option.some.inj e
    have hm := List.getElem_mem hk
    generalize (iH cs[j / 37] (.slice (some ⟨a, off, none⟩) 4 c'))[j % 37] = v at *
    unfold iH at hm
    simp only [List.mem_append, List.mem_map, List.mem_cons, List.not_mem_nil, or_false] at hm
    rcases hm with ⟨_, _, rfl⟩ | rfl | rfl | rfl | rfl | rfl <;> simp
  · simp at hj
theorem src_fy {o n : Nat} {un : Bool} {u : Value} {cs : List aJ} {tx e' : TypeId} (hk : P.underlying tx = some (.slice e')) (hu : RV β (.fy (.c cs) o n un) u) (hV : HV V β w) : ∃ news, Src P 37 tx u n news w ∧ Rws β ((cs.drop o).take n) news := by
  obtain ⟨hb, _, ⟨b0, c0, rfl, rfl⟩ | ⟨a, off, c', us, rfl, q1, q2, q3, q4⟩⟩ := hu
  · have e0 : (cs.drop o).take 0 = [] := by simp
    rw [e0]
    have hz : ∀ w' : World, (Builtin.firstCells 37 0 (.slice b0 0 c0)).run P w' = .ok ([] : List Value).toArray w' := fun w' => yA (P := P) b0 c0 w'
    exact ⟨[], ⟨Or.inl ⟨e', hk⟩, fun w' => rfl, hz w, hz w.drew, by simp, by simp⟩, by simp, fun i c hc => by simp at hc⟩
  · have hfz := hV.fz q3
    have hr : RO β (.rw cs) (.cells us.toArray 0 (0, 0)) := ⟨_, 0, 0, 0, rfl, by rw [List.size_toArray]; exact q4.1, Or.inl rfl, fun i c hc => by
      obtain ⟨k1, s, k2, k3⟩ := q4.2 i c hc
      exact ⟨k1, s, k2, fun k u hk => by rw [List.getElem?_toArray]; exact k3 k u hk⟩⟩
    obtain ⟨k1, k2⟩ := rws_cut hr hb
    by_cases hn : n = 0
    · subst hn
      have e0 : (cs.drop o).take 0 = [] := by simp
      rw [e0]
      have hz : ∀ w' : World, (Builtin.firstCells 37 0 (.slice (some ⟨a, off, none⟩) 0 c')).run P w' = .ok ([] : List Value).toArray w' := fun w' => by
        have := run_loadCells_list (P := P) w' ⟨a, off, none⟩ [] (fun j v hj => by simp at hj)
        exact this
      exact ⟨[], ⟨Or.inl ⟨e', hk⟩, fun w' => rfl, hz w, hz w.drew, by simp, by simp⟩, by simp, fun i c hc => by simp at hc⟩
    · obtain rfl : off = 37 * o := q2.resolve_left (by omega)
      have hl : ∀ w' : World, w'.heap = w.heap → (Builtin.firstCells 37 n (.slice (some ⟨a, 37 * o, none⟩) n c')).run P w' = .ok (lH us.toArray (37 * o) (n * 37)).toArray w' := fun w' hw' => fz_load (m := 37 * cs.length) hfz (fun j u hj => row_nch q4 hj) hw' k2 (by have hb : o + n ≤ cs.length := hb; omega)
      exact ⟨_, ⟨Or.inl ⟨e', hk⟩, fun w' => rfl, hl w rfl, hl w.drew rfl, eY k2, k1.one⟩, k1⟩
theorem apRow_nil {t tx ty e : TypeId} {i : TypeInfo} {z : Value} (ht : P.underlying t = some (.slice e)) (hi : P.info? e = some i) (hz : i.zero = some z) (hzs : z.cells.size = i.size) (h37 : i.size = 37) {n nx : Nat} {new : List aJ} {u : Value} {H : Tr HO} (hl : new.length = n) (hs : ∀ w, HV V β w → ∃ news, Src P 37 tx u n news w ∧ Rws β new news) (h0 : 0 < n) (b1 : n * i.bytes ≤ 1099511627776) (b2 : n ≤ 1099511627776) :
    vV P (vS (Builtin.append_ #[t, tx] ty #[.slice none 0 0, u])) V β H nx ⟨.xs nx 0 n 0 false, H.set nx (.rw new), nx + 1, []⟩ := by
  refine oU (fun w hV => ?_)
  obtain ⟨news, hs, rn⟩ := hs w hV
  rw [← h37] at hs
  obtain ⟨k, w', r1, r2, r3, r4, r5⟩ := pY (ty := ty) (base := none) (m := 0) (c := 0) (olds := []) ht hi hz rfl hs (by omega) (by rw [Nat.zero_add]; exact b1) (by omega)
  rw [Nat.zero_add] at r1
  refine ⟨_, w', _, dH r1, r2, r3, r4, r5, fun β' hs' hb' hk' => ⟨?_, ⟨_, _, _, hb', rfl, by omega, b2, fun q => by simp at q, ?_, Or.inr rfl⟩⟩⟩
  · rw [List.nil_append]
    exact ro_rws (rn.mono hs') e _
  · rw [hk']
    show 37 * (0 + (n + k)) ≤ Array.size _
    rw [Array.size_append, List.size_toArray, List.nil_append, hs.newsLen]
    simp only [Builtin.zeroCells, Array.size_map, Array.size_range]
    rw [hzs, h37, ← Nat.add_mul]; omega
theorem apRow_nil0 {t tx ty e : TypeId} {i : TypeInfo} (ht : P.underlying t = some (.slice e)) (hi : P.info? e = some i) (h37 : i.size = 37) {nx : Nat} {u : Value} {H : Tr HO} (hs : ∀ w, HV V β w → ∃ news, Src P 37 tx u 0 news w) :
    vV P (vS (Builtin.append_ #[t, tx] ty #[.slice none 0 0, u])) V β H nx ⟨.nils, H, nx, []⟩ := by
  refine fP (fun w hV => ?_)
  obtain ⟨news, hs⟩ := hs w hV
  rw [← h37] at hs
  exact ⟨.slice none 0 0, dH (stay_nil ht hi hs), rfl⟩
theorem apRow_same {t tx ty e : TypeId} {i : TypeInfo} (ht : P.underlying t = some (.slice e)) (hi : P.info? e = some i) (h37 : i.size = 37) {g o n c nx : Nat} {ex : Bool} {ul u : Value} {H : Tr HO} (hl : RV β (.xs g o n c ex) ul) (hs : ∀ w, HV V β w → ∃ news, Src P 37 tx u 0 news w) :
    vV P (vS (Builtin.append_ #[t, tx] ty #[ul, u])) V β H nx ⟨.xs g o n c ex, H, nx, []⟩ := by
  refine fP (fun w hV => ?_)
  obtain ⟨news, hs⟩ := hs w hV
  rw [← h37] at hs
  have hnl : news = [] := List.eq_nil_of_length_eq_zero (by rw [hs.newsLen]; simp)
  subst hnl
  have hl' := hl
  obtain ⟨a, c', off, ha, rfl, q1, _⟩ := hl
  refine ⟨.slice (some ⟨a, off, none⟩) n c', dH ?_, hl'⟩
  rcases hs.kind with ⟨e'', hk⟩ | hk <;> simp [Builtin.append_, aF ht, aF hk, sizeOf, typeInfo, hi, hs.len, hs.cells, bY, storeCells, q1]
theorem apRow_full {t tx ty e : TypeId} {i : TypeInfo} {z : Value} (ht : P.underlying t = some (.slice e)) (hi : P.info? e = some i) (hz : i.zero = some z) (hzs : z.cells.size = i.size) (h37 : i.size = 37) {g o n m nx : Nat} {cs new : List aJ} {ul u : Value} {H : Tr HO} (hg : V g = some (.rw cs)) (hb : o + n ≤ cs.length) (hl : RV β (.xs g o n n true) ul) (hm : new.length = m) (hs : ∀ w, HV V β w → ∃ news, Src P 37 tx u m news w ∧ Rws β new news) (h0 : 0 < m) (b1 : (n + m) * i.bytes ≤ 1099511627776) (b2 : n + m ≤ 1099511627776) :
    vV P (vS (Builtin.append_ #[t, tx] ty #[ul, u])) V β H nx ⟨.xs nx 0 (n + m) 0 false, H.set nx (.rw ((cs.drop o).take n ++ new)), nx + 1, []⟩ := by
  refine oU (fun w hV => ?_)
  obtain ⟨news, hs, rn⟩ := hs w hV
  rw [← h37] at hs
  obtain ⟨a, c', off, ha, rfl, q1, q2, q3, q4, q5⟩ := hl
  obtain rfl := q3 rfl
  obtain ⟨a', rob, p1, p2, p3, _⟩ := hV.at_ g _ hg
  rw [ha] at p1
  obtain rfl := Option.some.inj p1
  have hr := p3
  obtain ⟨us, e1, lo, hi', rfl, _⟩ := p3
  obtain ⟨k1, k2⟩ := rws_cut hr hb
  have hold : (Builtin.firstCells i.size c' (.slice (some ⟨a, off, none⟩) c' c')).run P w.drew = .ok (lH us (37 * o) (c' * 37)).toArray w.drew := by
    rw [h37]
    by_cases hn : c' = 0
    · subst hn
      have e0 : lH us (37 * o) (0 * 37) = [] := List.eq_nil_of_length_eq_zero (by rw [eY k2])
      rw [e0]
      exact run_loadCells_list (P := P) w.drew ⟨a, off, none⟩ [] (fun j v hj => by simp at hj)
    · have hoff : off = 37 * o := q5.resolve_left hn
      subst hoff
      exact loadR (w := w.drew) p2 k2
  obtain ⟨k, w', r1, r2, r3, r4, r5⟩ := pY (ty := ty) ht hi hz hold hs (by omega) b1 b2
  refine ⟨_, w', _, dH r1, r2, r3, r4, r5, fun β' hs' hb' hk' => ⟨ro_rws ((k1.append rn).mono hs') e _, ⟨_, _, _, hb', rfl, by omega, b2, fun q => by simp at q, ?_, Or.inr rfl⟩⟩⟩
  rw [hk']
  show 37 * (0 + (c' + m + k)) ≤ Array.size _
  rw [Array.size_append, List.size_toArray, List.length_append, eY k2, hs.newsLen]
  simp only [Builtin.zeroCells, Array.size_map, Array.size_range]
  rw [hzs, h37]; omega
theorem osOf_cells {ks : List CV} {os : List Int} {us : List Value} (h : osOf ks = some os) (hu : bJ β ks us) : us = (List.range 32).map (fun j => Value.int .u8 (os.getD j 0)) ++ [.int .u32 (os.getD 32 0)] ∧ (∀ j, j < 32 → IntKind.u8.wrap (os.getD j 0) = os.getD j 0) ∧ IntKind.u32.wrap (os.getD 32 0) = os.getD 32 0 := by
  unfold osOf at h
  split at h
  · rename_i a b ha hb
    split at h
    · rename_i hl
      obtain rfl := Option.some.inj h
      rw [Bool.and_eq_true] at hl
      have l1 := Nat.eq_of_beq_eq_true hl.1
      have l2 := Nat.eq_of_beq_eq_true hl.2
      obtain ⟨e1, w1⟩ := osK_ok ha (hu.take 32)
      obtain ⟨e2, w2⟩ := osK_ok hb (hu.drop 32)
      have hus : us = a.map (Value.int .u8) ++ b.map (Value.int .u32) := by rw [← e1, ← e2, List.take_append_drop]
      obtain ⟨z, rfl⟩ : ∃ z, b = [z] := by
        match b, l2 with
        | [z], _ => exact ⟨z, rfl⟩
      have hd : ∀ j (hj : j < a.length), (a ++ [z]).getD j 0 = a[j] := fun j hj => by
        rw [List.getD_eq_getElem?_getD, List.getElem?_append_left hj, List.getElem?_eq_getElem hj]; rfl
      have hz : (a ++ [z]).getD 32 0 = z := by
        rw [List.getD_eq_getElem?_getD, List.getElem?_append_right (by omega), l1]; rfl
      refine ⟨?_, fun j hj => ?_, ?_⟩
      · rw [hus, hz]
        congr 1
        apply List.ext_getElem?
        intro j
        rw [List.getElem?_map, List.getElem?_map]
        by_cases hj : j < 32
        · rw [List.getElem?_range hj, List.getElem?_eq_getElem (by omega : j < a.length)]
          simp only [Option.map_some]
          rw [hd j (by omega)]
        · rw [List.getElem?_eq_none (by omega), List.getElem?_eq_none (by simpa using hj)]; rfl
      · rw [hd j (by omega)]
        exact w1 _ (List.getElem_mem _)
      · rw [hz]
        exact w2 z (by simp)
    · simp at h
  · simp at h
theorem scrX_ok {l : List CV} {x : Int} (h : scrX l = some x) {s : Value} (hs : RV β (.fz l 0 4) s) : wO β s x := by
  unfold scrX at h
  split at h
  · rename_i a b s1 x' c
    split at h
    · rename_i hq
      obtain rfl := Option.some.inj h
      simp only [Bool.and_eq_true] at hq
      obtain rfl := Nat.eq_of_beq_eq_true hq.1.1
      obtain rfl := Nat.eq_of_beq_eq_true hq.1.2
      obtain rfl := Nat.eq_of_beq_eq_true hq.2.2
      obtain ⟨ad, off, c', us, rfl, k1, k2, k3, u1, r1, f1, q1, u2, r2, f2, q2, u3, r3, f3, q3, u4, r4, f4, q4, f5⟩ := hs
      have f5 : r4 = [] := f5
      subst f5
      refine ⟨ad, off, c', us, rfl, k1, k2.resolve_left (by omega), k3, gJ hq.2.1 q3.2, ?_⟩
      have f1 : us.take 4 = u1 :: r1 := f1
      rw [f1, f2, f3, f4, q1.1, q2.1, q3.1, q4.1]
      rfl
    · simp at h
  · simp at h
theorem coinOf_ok {cs : List CV} {c : aJ} {us : List Value} (h : coinOf cs = some c) (hu : bJ β cs us) : Rws β [c] us := by
  unfold coinOf at h
  split at h
  · rename_i os s1 v l s2 hh bb b hos hd
    split at h
    · rename_i x hr hx
      obtain rfl := Option.some.inj h
      rw [Bool.and_eq_true] at hr
      obtain ⟨e1, w1, w2⟩ := osOf_cells hos (hu.take 33)
      have h4 := hu.drop 33
      rw [hd] at h4
      obtain ⟨u1, r1, f1, q1, u2, r2, f2, q2, u3, r3, f3, q3, u4, r4, f4, q4, f5⟩ := h4
      have f5 : r4 = [] := f5
      subst f5
      have hus : us = iH ⟨os, v, x, hh, b⟩ u2 := by
        rw [← List.take_append_drop 33 us, e1, f1, f2, f3, f4, q1.1, q3.1, show u4 = _ from q4]
        simp [iH]
      refine ⟨by rw [hus, lZ]; rfl, fun i c hc => ?_⟩
      cases i with
      | zero =>
        obtain rfl := Option.some.inj hc
        refine ⟨⟨w1, w2, gJ hr.1 q1.2, gJ hr.2 q3.2⟩, u2, scrX_ok hx q2, fun k u hk => ?_⟩
        rw [hus, Nat.mul_zero, Nat.zero_add]
        exact hk
      | succ i => simp at hc
    · simp at h
  · simp at h
theorem src_one {g c lo : Nat} {u : Value} {cs : List CV} {cn : aJ} {e0 tx e' : TypeId} {r : Bool} (hk : P.underlying tx = some (.slice e')) (hu : RV β (.sl g 0 1 c lo) u) (hg : V g = some (.cells cs e0 r)) (hl : 37 ≤ cs.length) (hc : coinOf (cs.take 37) = some cn) (hV : HV V β w) : ∃ news, Src P 37 tx u 1 news w ∧ Rws β [cn] news := by
  obtain ⟨a, c', ha, rfl, _⟩ := hu
  obtain ⟨a', rob, h1, h2, h3, _⟩ := hV.at_ g _ hg
  rw [ha] at h1
  obtain rfl := Option.some.inj h1
  obtain ⟨us, lo', hi', rfl, q1, q2, q3, q4⟩ := h3
  have rn := uS (o := 0) (n := 37) q4 (by omega) q1
  have e1 : cut cs 0 37 = cs.take 37 := by unfold cut; rw [List.drop_zero]
  rw [e1] at rn
  have hR := coinOf_ok hc rn
  have hl' : ∀ w' : World, w'.heap = w.heap → (Builtin.firstCells 37 1 (.slice (some ⟨a, 0, none⟩) 1 c')).run P w' = .ok (lH us 0 37).toArray w' := fun w' hw' => loadR (n := 37) (by rw [hw']; exact h2) (by omega)
  exact ⟨_, ⟨Or.inl ⟨e', hk⟩, fun w' => rfl, hl' w rfl, hl' w.drew rfl, eY (by omega), hR.one⟩, hR⟩
theorem apRow_move {t tx ty e : TypeId} {i : TypeInfo} {z : Value} (ht : P.underlying t = some (.slice e)) (hi : P.info? e = some i) (hz : i.zero = some z) (hzs : z.cells.size = i.size) (h37 : i.size = 37) {g n c m nx : Nat} {ex : Bool} {cs new : List aJ} {ul u : Value} {H : Tr HO} (hg : V g = some (.rw cs)) (hlt : ∀ n, V n ≠ none → n < nx) (hb : n ≤ cs.length) (hl : RV β (.xs g 0 n c ex) ul) (hm : new.length = m) (hs : ∀ w, HV V β w → ∃ news, Src P 37 tx u m news w ∧ Rws β new news) (h0 : 0 < m) (b1 : (n + m) * i.bytes ≤ 1099511627776) (b2 : n + m ≤ 1099511627776) :
    vV P (vS (Builtin.append_ #[t, tx] ty #[ul, u])) V β H nx ⟨.xs nx 0 (n + m) 0 false, (H.del g).set nx (.rw (cs.take n ++ new)), nx + 1, [g]⟩ := by
  have gn : g < nx := hlt _ (by rw [hg]; simp)
  refine ⟨fun w hV hfr => ?_, ⟨by simp, fun k hk hkp => ?_, fun p hp => ?_⟩⟩
  · have hnx : β.ad nx = none := hfr nx (Nat.le_refl _) (by simp)
    obtain ⟨news, hs, rn⟩ := hs w hV
    rw [← h37] at hs
    obtain ⟨a, c', off, ha, rfl, w1, w2, w3, w4, w5⟩ := hl
    obtain ⟨a', rob, q1, q2, q3, q4⟩ := hV.at_ g _ hg
    rw [ha] at q1
    obtain rfl := Option.some.inj q1
    have hr0 := q3
    obtain ⟨us, e1, lo', hi', rfl, p1, p3, p4⟩ := q3
    obtain ⟨k1, k2⟩ := rws_cut hr0 (o := 0) (n := n) (by omega)
    rw [List.drop_zero] at k1
    have hul : us.toList.length = us.size := Array.length_toList
    rw [q4] at w4
    simp only [iQ, Nat.zero_add] at w4
    have hH : ((H.del g).set nx (.rw (cs.take n ++ new))).get nx = some (.rw (cs.take n ++ new)) := by rw [rO, if_pos rfl]
    have hH' : ((H.del g).set nx (.rw (cs.take n ++ new))).get g = none := by rw [rO, if_neg (by omega), if_pos rfl]
    have hcr : lH us (37 * 0) (n * 37) = us.toList.take (n * 37) := by unfold lH; rw [Nat.mul_zero, List.drop_zero]
    have hnl : news.length = m * 37 := by rw [hs.newsLen, h37]
    by_cases hroom : n + m ≤ c'
    · have hoff : off = 37 * 0 := w5.resolve_left (by omega)
      rw [Nat.mul_zero] at hoff
      subst hoff
      have hfit : (n + m) * i.size ≤ us.size := by rw [h37]; omega
      have hrun := stay_run (ty := ty) ht hi hs hroom q2 p3 (o := 0) (by rw [Nat.zero_add]; exact hfit)
      simp only [Nat.zero_add] at hrun
      have hsz : n * i.size + news.length ≤ us.size := by rw [hs.newsLen, ← Nat.add_mul]; exact hfit
      have hos : iQ (.cells (us.toList.take (n * i.size) ++ news ++ us.toList.drop (n * i.size + news.length)).toArray e1 (lo', hi')) = us.size := by
        show Array.size _ = _
        rw [List.size_toArray, lK _ _ _ (by omega), hul]
      rw [hcr] at k1
      have rall := k1.append rn
      refine dZ (dH hrun) ⟨_, trMove (k := _) ha (Or.inl rfl) (Nat.le_of_eq (setRow_size (w := w)).symm) (fun k _ hk => lY hk) rfl rfl rfl, ⟨a, c', 0, dI _ _ _ _, rfl, hroom, b2, fun q => by simp at q, ?_, Or.inr rfl⟩, hV.move hnx hH hH' hg ha (Or.inl rfl) (fun k _ hk => lY hk) (setRow_heap w a us _ e1 (lo', hi') q2) ?_⟩
      · rw [mX, hos]; omega
      · refine ⟨_, e1, lo', hi', rfl, ?_, ?_, fun j y hy => ?_⟩
        · rw [List.size_toArray, lK _ _ _ (by omega), hul, List.length_append, List.length_take, hm]; rw [hnl, h37] at hsz; omega
        · rw [List.size_toArray, lK _ _ _ (by omega), hul]; exact p3
        · obtain ⟨f1, s, f2, f4⟩ := rall.2 j y hy
          refine ⟨f1, s, f2, fun k u hk => ?_⟩
          have f5 := f4 k u hk
          have hj : 37 * j + k < n * i.size + news.length := by
            have := (List.getElem?_eq_some_iff.1 f5).1
            rw [List.length_append, List.length_take, hul] at this; rw [h37]; omega
          rw [take_spl hsz _ hj, h37]
          exact f5
    · have hold : (Builtin.firstCells i.size n (.slice (some ⟨a, off, none⟩) n c')).run P w.drew = .ok (lH us (37 * 0) (n * 37)).toArray w.drew := by
        rw [h37]
        by_cases hn : n = 0
        · subst hn
          have e0 : lH us (37 * 0) (0 * 37) = [] := List.eq_nil_of_length_eq_zero (by rw [eY k2])
          rw [e0]
          exact run_loadCells_list (P := P) w.drew ⟨a, off, none⟩ [] (fun j v hj => by simp at hj)
        · have hoff : off = 37 * 0 := w5.resolve_left (by omega)
          subst hoff
          exact loadR (w := w.drew) q2 k2
      obtain ⟨k, w', r1, r2, r3, r4, r5⟩ := pY (ty := ty) ht hi hz hold hs (by omega) b1 b2
      have hwk : ∀ k, k < w.heap.size → k ≠ w.heap.size → w'.heap[k]? = w.heap[k]? := fun k hk _ => by rw [r2, Array.getElem?_push, if_neg (by omega)]
      have hr : w'.heap[w.heap.size]? = some (.cells ((lH us (37 * 0) (n * 37) ++ news).toArray ++ Builtin.zeroCells z.cells k) e (0, 0)) := by rw [r2]; simp
      refine dZ (dH r1) ⟨_, trMove (k := _) ha (Or.inr (Nat.le_refl _)) (by rw [r2]; simp) hwk r3 r4 r5, ⟨w.heap.size, _, 0, dI _ _ _ _, rfl, by omega, b2, fun q => by simp at q, ?_, Or.inr rfl⟩, hV.move hnx hH hH' hg ha (Or.inr (Nat.le_refl _)) hwk hr (ro_rws ((k1.append rn).mono (iK hnx)) e _)⟩
      rw [mX]
      show 37 * (0 + (n + m + k)) ≤ Array.size _
      rw [Array.size_append, List.size_toArray, List.length_append, eY k2, hs.newsLen]
      simp only [Builtin.zeroCells, Array.size_map, Array.size_range]
      rw [hzs, h37]; omega
  · have h1 : ¬ (nx ≤ k ∧ k < nx + 1) := hk
    have h2 : k ∉ [g] := hkp
    show ((H.del g).set nx _).get k = H.get k
    rw [rO, if_neg (by omega), if_neg (fun q => h2 (by rw [q]; simp))]
  · have hp' : p ∈ [g] := hp
    rw [List.mem_singleton.1 hp', hg]; simp
end
section
variable {P : Program} {β : Names} {V : Acc}
theorem apSrc_ok {s : CV} {b : Bool} {new : List aJ} {lit : Bool} (h : apSrc V s = some (lit, b, new)) (hb : b = true) {u : Value} (hu : RV β s u) {tx e' : TypeId} (hk : P.underlying tx = some (.slice e')) : ∀ w, HV V β w → ∃ news, Src P 37 tx u new.length news w ∧ Rws β new news := by
  intro w hV
  unfold apSrc at h
  split at h
  · rename_i cs o n un
    simp only [Option.some.injEq, Prod.mk.injEq] at h
    obtain ⟨_, _, rfl⟩ := h
    have := src_fy (P := P) hk hu hV
    have hb := hu.1
    rw [show ((cs.drop o).take n).length = n by rw [List.length_take, List.length_drop]; have hb' : o + n ≤ cs.length := hb; omega]
    exact this
  · rename_i g o n c ex
    split at h
    · rename_i cs hg
      simp only [Option.some.injEq, Prod.mk.injEq] at h
      obtain ⟨_, h1, rfl⟩ := h
      rw [hb] at h1
      have h2 := of_decide_eq_true h1
      have := src_xs (P := P) hk hu hg h2 hV
      rw [show ((cs.drop o).take n).length = n by rw [List.length_take, List.length_drop]; omega]
      exact this
    · simp at h
  · rename_i g o n c lo
    split at h
    · rename_i hon
      rw [Bool.and_eq_true] at hon
      obtain rfl := Nat.eq_of_beq_eq_true hon.1
      obtain rfl := Nat.eq_of_beq_eq_true hon.2
      split at h
      · rename_i cs e0 r hg
        split at h
        · rename_i cn hl hc
          simp only [Option.some.injEq, Prod.mk.injEq] at h
          obtain ⟨_, _, rfl⟩ := h
          exact src_one hk hu hg (dK hl) hc hV
        · simp at h
      · simp at h
    · simp at h
  · simp at h
theorem qAp2_ok {t tx ty e : TypeId} {i : TypeInfo} {z : Value} (ht : P.underlying t = some (.slice e)) (hi : P.info? e = some i) (hz : i.zero = some z) (hzs : z.cells.size = i.size) (h37 : i.size = 37) (hby : i.bytes ≤ 400000) {nx : Nat} {new : List aJ} {l : CV} {ul u : Value} {H : Tr HO} {out : Out} (hlt : ∀ n, V n ≠ none → n < nx) (hl : RV β l ul) (hn : new.length ≤ 1048576) (hs : ∀ w, HV V β w → ∃ news, Src P 37 tx u new.length news w ∧ Rws β new news) {lit : Bool} (h : (qAp2 V H nx lit new l).val = some out) : vV P (vS (Builtin.append_ #[t, tx] ty #[ul, u])) V β H nx out := by
  have hs0 : ¬ 0 < new.length → ∀ w, HV V β w → ∃ news, Src P 37 tx u 0 news w := fun h0 w hV => by
    obtain ⟨news, k1, _⟩ := hs w hV
    rw [show new.length = 0 by omega] at k1
    exact ⟨news, k1⟩
  have mulb : ∀ a, a ≤ 2097152 → a * i.bytes ≤ 1099511627776 := fun a ha => by
    have := Nat.mul_le_mul ha hby
    omega
  unfold qAp2 at h
  split at h
  · rw [uD] at h
    simp only [RV] at hl
    subst hl
    cases hd : decide (0 < new.length) with
    | true =>
      rw [hd] at h
      obtain rfl := Option.some.inj h
      exact apRow_nil ht hi hz hzs h37 rfl hs (of_decide_eq_true hd) (mulb _ (by omega)) (by omega)
    | false =>
      rw [hd] at h
      obtain rfl := Option.some.inj h
      exact apRow_nil0 ht hi h37 (hs0 (of_decide_eq_false hd))
  · rename_i g o n c ex
    split at h
    · rename_i cs hg
      cases hd1 : (decide (o + n ≤ cs.length) && decide (n ≤ 1048576)) with
      | false => rw [hd1] at h; simp [R.val] at h
      | true =>
        rw [hd1] at h
        rw [Bool.and_eq_true] at hd1
        have hb := of_decide_eq_true hd1.1
        have hn2 := of_decide_eq_true hd1.2
        simp only [R.val] at h
        rw [uD] at h
        cases hd : decide (0 < new.length) with
        | false =>
          rw [hd] at h
          obtain rfl := Option.some.inj h
          exact apRow_same ht hi h37 hl (hs0 (of_decide_eq_false hd))
        | true =>
          rw [hd] at h
          have h0 := of_decide_eq_true hd
          cases ex with
          | true =>
            cases hd3 : decide (c = n) with
            | false => simp only [hd3, R.val] at h; simp at h
            | true =>
              obtain rfl := of_decide_eq_true hd3
              simp only [hd3, R.val] at h
              obtain rfl := Option.some.inj h
              exact apRow_full ht hi hz hzs h37 hg hb hl rfl hs h0 (mulb _ (by omega)) (by omega)
          | false =>
            cases ho : Nat.beq o 0 with
            | false => simp only [ho, R.val] at h; simp at h
            | true =>
              obtain rfl := Nat.eq_of_beq_eq_true ho
              simp only [ho, R.val] at h
              obtain rfl := Option.some.inj h
              exact apRow_move ht hi hz hzs h37 hg hlt (by omega) hl rfl hs h0 (mulb _ (by omega)) (by omega)
    · simp [R.val] at h
  · simp [R.val] at h
theorem qAp_ok {op : Op} {fr : dV} {H : Tr HO} {nx : Nat} {out : Out} (h : (cmpQf P op fr V H nx).val = some out) {o : Oper} (ho : o.op = op) {A : Act} (hG : Gl β) (hF : RF β fr A) (hlt : ∀ n, V n ≠ none → n < nx) : vV P (execOp A.eval o) V β H nx out := by
  obtain ⟨q, hq⟩ : ∃ q, cmpQf P op = q := ⟨_, rfl⟩
  rw [hq] at h
  unfold cmpQf at hq
  split at hq
  · rename_i a x t t'
    split at hq
    · rename_i e e' fa fx hu hu' hfa hfx
      rw [bD] at hu hu'
      split at hq
      · rename_i i z hi hz
        rw [bW] at hi
        split at hq
        · rename_i hc
          subst hq
          simp only [Bool.and_eq_true] at hc
          have h37 := Nat.eq_of_beq_eq_true hc.1.1
          have hzl := Nat.eq_of_beq_eq_true hc.1.2
          obtain ⟨zv, hz1, hz2⟩ := zeroC_size hi hz
          obtain ⟨cs, he⟩ := rJ (A := A) ho
          unfold qAp at h
          split at h
          · rename_i l s hl hs
            split at h
            · rename_i lit b new hsrc
              rw [uD] at h
              cases hb : (b && decide (new.length ≤ 1048576)) with
              | false => rw [hb] at h; simp [R.val] at h
              | true =>
                rw [hb] at h
                rw [Bool.and_eq_true] at hb
                have := qAp2_ok (ty := o.type) hu hi hz1 (by omega) h37 (dK hc.2) hlt (aW hfa hG hF hl) (of_decide_eq_true hb.2) (apSrc_ok (P := P) hsrc hb.1 (aW hfx hG hF hs) hu') h
                rw [he, arr2]
                exact this
            · simp [R.val] at h
          · simp [R.val] at h
        · subst hq; simp [qNo, R.val] at h
      · subst hq; simp [qNo, R.val] at h
    · subst hq; simp [qNo, R.val] at h
  · subst hq; simp [qNo, R.val] at h
theorem frc_rd {H : Tr HO} {nx : Nat} {v : CV} : nR V H nx ⟨v, H, nx, []⟩ := ⟨Nat.le_refl _, fun _ _ _ => rfl, fun p hp => by simp at hp⟩
theorem frc_nw {H : Tr HO} {nx : Nat} {v : CV} {ob : HO} : nR V H nx ⟨v, H.set nx ob, nx + 1, []⟩ := ⟨Nat.le_succ nx, fun m hm _ => by
  have h1 : ¬ (nx ≤ m ∧ m < nx + 1) := hm
  show (H.set nx ob).get m = _
  rw [Tr.get_set, if_neg (by omega)], fun p hp => by simp at hp⟩
theorem frc_mv {H : Tr HO} {nx g : Nat} {v : CV} {ob : HO} (hg : V g ≠ none) : nR V H nx ⟨v, (H.del g).set nx ob, nx + 1, [g]⟩ := ⟨Nat.le_succ nx, fun m hm hp => by
  have h1 : ¬ (nx ≤ m ∧ m < nx + 1) := hm
  have h2 : m ∉ [g] := hp
  show ((H.del g).set nx ob).get m = _
  rw [rO, if_neg (by omega), if_neg (fun q => h2 (by rw [q]; simp))], fun p hp => by
  have hp' : p ∈ [g] := hp
  rw [List.mem_singleton.1 hp']; exact hg⟩
theorem qAp2_fr {nx : Nat} {new : List aJ} {l : CV} {H : Tr HO} {out : Out} {lit : Bool} (h : (qAp2 V H nx lit new l).val = some out) : nR V H nx out := by
  unfold qAp2 at h
  split at h
  · rw [uD] at h
    cases hd : decide (0 < new.length) with
    | true => rw [hd] at h; obtain rfl := Option.some.inj h; exact frc_nw
    | false => rw [hd] at h; obtain rfl := Option.some.inj h; exact frc_rd
  · rename_i g o n c ex
    split at h
    · rename_i cs hg
      cases hd1 : (decide (o + n ≤ cs.length) && decide (n ≤ 1048576)) with
      | false => rw [hd1] at h; simp [R.val] at h
      | true =>
        rw [hd1] at h
        simp only [R.val] at h
        rw [uD] at h
        cases hd : decide (0 < new.length) with
        | false => rw [hd] at h; obtain rfl := Option.some.inj h; exact frc_rd
        | true =>
          rw [hd] at h
          cases ex with
          | true =>
            cases hd3 : decide (c = n) with
            | false => simp only [hd3, R.val] at h; simp at h
            | true => simp only [hd3, R.val] at h; obtain rfl := Option.some.inj h; exact frc_nw
          | false =>
            cases ho : Nat.beq o 0 with
            | false => simp only [ho, R.val] at h; simp at h
            | true => simp only [ho, R.val] at h; obtain rfl := Option.some.inj h; exact frc_mv (by rw [hg]; simp)
    · simp [R.val] at h
  · simp [R.val] at h
theorem qAp_fr {op : Op} {fr : dV} {H : Tr HO} {nx : Nat} {out : Out} (h : (cmpQf P op fr V H nx).val = some out) : nR V H nx out := by
  obtain ⟨q, hq⟩ : ∃ q, cmpQf P op = q := ⟨_, rfl⟩
  rw [hq] at h
  unfold cmpQf at hq
  split at hq
  · split at hq
    · split at hq
      · split at hq
        · subst hq
          unfold qAp at h
          split at h
          · split at h
            · rename_i lit b new hsrc
              rw [uD] at h
              cases hb : (b && decide (new.length ≤ 1048576)) with
              | false => rw [hb] at h; simp [R.val] at h
              | true => rw [hb] at h; exact qAp2_fr h
            · simp [R.val] at h
          · simp [R.val] at h
        · subst hq; simp [qNo, R.val] at h
      · subst hq; simp [qNo, R.val] at h
    · subst hq; simp [qNo, R.val] at h
  · subst hq; simp [qNo, R.val] at h
end
end Go.Proofs.YtcgdimlbbdfdpaaGreatDoor
