/-
  What this statement needs, part 18: the texts of it, one behind the other.
-/
import Derived.Test.YtcgdimlbbdfdpaaGreatDoorBase14
set_option maxRecDepth 100000
set_option linter.all false
namespace Go.Proofs.YtcgdimlbbdfdpaaGreatDoor
open Go Go.RowKit
set_option maxRecDepth 20000
def exB (id : Nat) : Ex → Ex
  | .exit i => if i = id then .nrm else .exit i
  | e => e
section
variable (CT : bQ) (N : Nat) (H0 : Tr HO)
inductive iC : Code → aP → Ex → aP → Prop
  | run {c : Code} {s s' : aP} {e : Ex} (hc : (dB Tryz.prog N c).isSome = true) (h : (iJ CT N c s).val = some (e, s')) : iC c s e s'
  | weak {c : Code} {s s2 s' : aP} {e : Ex} {ρ : Nat → Nat} (hw : Wk 64 [] ρ s s2) (pu : Pu 64 [] H0 s2) (h : iC c s2 e s') : iC c s e s'
  | seq {a b : Code} {s s1 s' : aP} {e : Ex} (h1 : iC a s .nrm s1) (h2 : iC b s1 e s') : iC (.seq a b) s e s'
  | stop {a b : Code} {s s' : aP} {e : Ex} (h1 : iC a s e s') (he : e ≠ .nrm) : iC (.seq a b) s e s'
  | blk {id : Nat} {c : Code} {s s' : aP} {e : Ex} (h : iC c s e s') : iC (.block id c) s (exB id e) s'
  | again {c : Code} {s s1 s' : aP} {e : Ex} (h1 : iC c s .nrm s1) (h2 : iC (.loop c) s1 e s') : iC (.loop c) s e s'
  | out {c : Code} {s s' : aP} {e : Ex} (h1 : iC c s e s') (he : e ≠ .nrm) : iC (.loop c) s e s'
  | ct {o : Operand} {f : yZ} {x y : Code} {s s' : aP} {e : Ex} {b t : Bool} (hf : aX o = some f) (hv : f s.fr = some (.bool b t)) (ht : t = true) (h : iC x s e s') : iC (.cond o x y) s e s'
  | cf {o : Operand} {f : yZ} {x y : Code} {s s' : aP} {e : Ex} {b t : Bool} (hf : aX o = some f) (hv : f s.fr = some (.bool b t)) (ht : t = false) (h : iC y s e s') : iC (.cond o x y) s e s'
end
section
variable {CT : bQ} (hT : gV Tryz.prog CT) {N : Nat} {H0 : Tr HO}
include hT
def LdsQ (N : Nat) (H0 : Tr HO) (s : aP) (e : Ex) (s' : aP) (R : (Exit → Act → World → Prop) → Act → World → Prop) : Prop :=
  ∀ (β0 : Names) (w0 : World) (β : Names) (A : Act) (w : World) (Q : Exit → Act → World → Prop), (∀ n, 64 ≤ n → β0.ad n = none) → Inv β0 64 N w0 [] s β A w → Pu 64 [] H0 s → (∀ β A w, Inv β0 64 N w0 [] s' β A w → Pu 64 [] H0 s' → Q (exR e) A w) → R Q A w
theorem iC.ok {c : Code} {s s' : aP} {e : Ex} (h : iC CT N H0 c s e s') : LdsQ N H0 s e s' (c.wp Tryz.prog) ∧ ∀ c', c = .loop c' → ∃ k, LdsQ N H0 s e s' (fun Q A w => Code.rounds Tryz.prog c' Q k A w) := by
  induction h with
  | @run c s s' e hc h =>
    refine ⟨fun β0 w0 β A w Q hfr hI pu hq => yV (mZ hT mixed noNG (L := 20000) 60) mixed c _ (ccSome hc) β0 64 w0 [] H0 s e s' β A w Q h (fun n hn _ => hfr n hn) hI pu hq, ?_⟩
    rintro c' rfl
    refine ⟨20000, fun β0 w0 β A w Q hfr hI pu hq => ?_⟩
    cases hx : dB Tryz.prog N c' with
    | none =>
      have e1 : dB Tryz.prog N (.loop c') = none := by rw [dB, hx]
      rw [e1] at hc; simp at hc
    | some x =>
      have e1 : dB Tryz.prog N (.loop c') = some (.loop x) := by rw [dB, hx]
      unfold iJ ccOf at h
      rw [e1] at h
      exact rounds_ok (yV (mZ hT mixed noNG (L := 20000) 60) mixed c') hx (fun n hn _ => hfr n hn) hq (show (o7 20000 (kQ CT (kD Tryz.prog CT 20000 60) 20000 64 [] x) s).val = some (e, s') from h) hI pu
  | weak hw pu2 _ ih =>
    refine ⟨fun β0 w0 β A w Q hfr hI pu hq => ?_, fun c' hc => ?_⟩
    · obtain ⟨β2, hI2⟩ := hI.weak hw hfr (Nat.le_refl _)
      exact ih.1 β0 w0 β2 A w Q hfr hI2 pu2 hq
    · obtain ⟨k, hk⟩ := ih.2 c' hc
      refine ⟨k, fun β0 w0 β A w Q hfr hI pu hq => ?_⟩
      obtain ⟨β2, hI2⟩ := hI.weak hw hfr (Nat.le_refl _)
      exact hk β0 w0 β2 A w Q hfr hI2 pu2 hq
  | seq _ _ ih1 ih2 =>
    refine ⟨fun β0 w0 β A w Q hfr hI pu hq => ?_, fun c' hc => by simp at hc⟩
    exact wp_seq (ih1.1 β0 w0 β A w _ hfr hI pu (fun β A w hI pu => ih2.1 β0 w0 β A w Q hfr hI pu hq))
  | @stop a b s s' e _ he ih =>
    refine ⟨fun β0 w0 β A w Q hfr hI pu hq => ?_, fun c' hc => by simp at hc⟩
    refine wp_seq (ih.1 β0 w0 β A w _ hfr hI pu (fun β A w hI pu => ?_))
    have := hq β A w hI pu
    cases e with
    | nrm => exact absurd rfl he
    | exit i => exact this
    | ret => exact this
  | @blk id c s s' e _ ih =>
    refine ⟨fun β0 w0 β A w Q hfr hI pu hq => ?_, fun c' hc => by simp at hc⟩
    refine wp_block (ih.1 β0 w0 β A w _ hfr hI pu (fun β A w hI pu => ?_))
    have := hq β A w hI pu
    cases e with
    | nrm => exact this
    | exit i =>
      by_cases hi : i = id
      · have e1 : exB id (.exit i) = .nrm := if_pos hi
        rw [e1] at this
        simp only [exR, Exit.inBlock, if_pos hi]
        exact this
      · have e1 : exB id (.exit i) = .exit i := if_neg hi
        rw [e1] at this
        simp only [exR, Exit.inBlock, if_neg hi]
        exact this
    | ret => exact this
  | @again c s s1 s' e _ _ ih1 ih2 =>
    have key : ∀ c', Code.loop c = .loop c' → ∃ k, LdsQ N H0 s e s' (fun Q A w => Code.rounds Tryz.prog c' Q k A w) := fun c' hc => by
      obtain ⟨k, hk⟩ := ih2.2 c' hc
      injection hc with hc
      subst hc
      refine ⟨k + 1, fun β0 w0 β A w Q hfr hI pu hq => ?_⟩
      show Code.rounds Tryz.prog c Q (k + 1) A w
      rw [rounds_succ]
      exact ih1.1 β0 w0 β A w _ hfr hI pu (fun β A w hI pu => hk β0 w0 β A w Q hfr hI pu hq)
    refine ⟨fun β0 w0 β A w Q hfr hI pu hq => ?_, key⟩
    obtain ⟨k, hk⟩ := key _ rfl
    exact wp_loop_rounds k (hk β0 w0 β A w Q hfr hI pu hq)
  | @out c s s' e _ he ih =>
    have key : ∀ c', Code.loop c = .loop c' → ∃ k, LdsQ N H0 s e s' (fun Q A w => Code.rounds Tryz.prog c' Q k A w) := fun c' hc => by
      injection hc with hc
      subst hc
      refine ⟨1, fun β0 w0 β A w Q hfr hI pu hq => ?_⟩
      show Code.rounds Tryz.prog c Q (0 + 1) A w
      rw [rounds_succ]
      refine ih.1 β0 w0 β A w _ hfr hI pu (fun β A w hI pu => ?_)
      have := hq β A w hI pu
      cases e with
      | nrm => exact absurd rfl he
      | exit i => exact this
      | ret => exact this
    refine ⟨fun β0 w0 β A w Q hfr hI pu hq => ?_, key⟩
    obtain ⟨k, hk⟩ := key _ rfl
    exact wp_loop_rounds k (hk β0 w0 β A w Q hfr hI pu hq)
  | ct hf hv ht _ ih =>
    refine ⟨fun β0 w0 β A w Q hfr hI pu hq => ?_, fun c' hc => by simp at hc⟩
    have e := aW hf hI.gl hI.fr hv
    simp only [RV] at e
    refine wp_cond_split e (fun _ => ih.1 β0 w0 β A w Q hfr hI pu hq) (fun h => by rw [ht] at h; simp at h)
  | cf hf hv ht _ ih =>
    refine ⟨fun β0 w0 β A w Q hfr hI pu hq => ?_, fun c' hc => by simp at hc⟩
    have e := aW hf hI.gl hI.fr hv
    simp only [RV] at e
    refine wp_cond_split e (fun h => by rw [ht] at h; simp at h) (fun _ => ih.1 β0 w0 β A w Q hfr hI pu hq)
theorem lds_pur {f : FuncId} {fn : Func} {c : Code} {rs : List RS} (hf : Tryz.prog.funcs[f]? = some fn) (hb : fn.body = some c) (hn : (fn.name == "runtime.NumGoroutine") = false) (hrs : cmpR Tryz.prog fn.results.toList = some rs) {S : List CV → Acc → R CV}
    (hs : ∀ (l : List CV) (V : Acc) (v : CV), (S l V).val = some v → pJ V = true ∧ ∀ (β : Names) (us : List Value), bJ β l us → ∃ l' e s', bJ β l' us ∧ allC (clo 9) l' = true ∧ l'.length ≤ fn.ntmps ∧ iC CT fn.ntmps aH c ⟨frameC 0 l' .e, aH, 64, []⟩ e s' ∧ (e = .nrm ∨ e = .ret) ∧ s'.wr = [] ∧ Fin rs v s') : bM Tryz.prog f S := by
  intro l V v h β args w nx hG hR hV
  obtain ⟨htab, hs⟩ := hs l V v h
  obtain ⟨l', e, s', hR', hcl, hN, hL, he, hwr, lr, b, v', hlr, hz, hbo, hv⟩ := hs β _ hR
  have hT' : ∀ n o, aH.get n = some o → n < 64 ∧ V n = some o := tabB_ok htab
  have hR0 : bJ (base0 β) l' args.toList := bJ.sxs (fun c v hc h => RV.sxs (β := β) (β' := base0 β) (fun _ _ h => h) 9 c v hc h) hcl hR'
  have hG0 : Gl (base0 β) := fun g hg => by unfold base0; simp only; rw [if_pos hg]; exact hG g hg
  have hro : ∀ {n : Nat} {o : HO}, aH.get n = some o → ∃ ns, o = .ro (w32 ns) := fun {n o} h => by
    have e : hpT V = aH := by unfold hpT; rw [htab]
    exact hpT_ro V (by rw [e]; exact h)
  have sub0 : ∀ {o : HO} {n : Nat} {ob : Obj}, aH.get n = some o → RO β o ob → RO (base0 β) o ob := by
    rintro o n ob ho hr
    obtain ⟨ns, rfl⟩ := hro ho
    obtain ⟨cs, e, fr, h1, h2⟩ := hr
    refine ⟨cs, e, fr, h1, fun i x hx => ?_⟩
    obtain ⟨u, k1, k2⟩ := h2 i x hx
    unfold w32 at hx
    rw [List.getElem?_map, Option.map_eq_some_iff] at hx
    obtain ⟨n, _, rfl⟩ := hx
    exact ⟨u, k1, k2⟩
  have hV0 : HV aH.get (base0 β) w := by
    refine ⟨fun n o ho => ?_, fun n m a hn hm hna hma => ?_, fun a ha => ⟨(hV.fpa a ha).1, fun n hn hna => ?_⟩, hV.sxf⟩
    · obtain ⟨hn, hv⟩ := hT' n o ho
      obtain ⟨a, ob, k1, k2, k3, k4⟩ := hV.at_ n o hv
      exact ⟨a, ob, by unfold base0; simp only; rw [if_pos hn]; exact k1, k2, sub0 ho k3, k4⟩
    · obtain ⟨o1, q1⟩ := Option.ne_none_iff_exists'.1 hn
      obtain ⟨o2, q2⟩ := Option.ne_none_iff_exists'.1 hm
      obtain ⟨l1, v1⟩ := hT' n o1 q1
      obtain ⟨l2, v2⟩ := hT' m o2 q2
      unfold base0 at hna hma
      simp only at hna hma
      rw [if_pos l1] at hna
      rw [if_pos l2] at hma
      exact hV.inj n m a (by rw [v1]; simp) (by rw [v2]; simp) hna hma
    · obtain ⟨o1, q1⟩ := Option.ne_none_iff_exists'.1 hn
      obtain ⟨l1, v1⟩ := hT' n o1 q1
      unfold base0 at hna
      simp only at hna
      rw [if_pos l1] at hna
      exact (hV.fpa a ha).2 n (by rw [v1]; simp) hna
  have pu : Pu 64 [] aH ⟨frameC 0 l' .e, aH, 64, []⟩ := ⟨Nat.le_refl _, fun _ h => by simp at h, aH_dom, fun _ _ _ => rfl, fun _ _ => rfl, fun p hp => by simp at hp⟩
  have hw := walk_ok (K := fun c s => Pu 64 [] aH s ∧ s.wr = [] ∧ ∃ b v', frz s.H 9 c = some (b, v') ∧ b.ok ∧ l7 v' v) hf hb hn hrs hG0 hR0 hV0 (nx := 64) hN (fun A hI => (hL.ok hT).1 (base0 β) w (base0 β) A w _ (fun m hm => by unfold base0; simp only; rw [if_neg (by omega)]) hI pu (fun β' A' w' hI' pu' => ⟨by rcases he with rfl | rfl <;> simp [exR], s', β', lr, hI', hlr, pu', hwr, b, v', hz, hbo, hv⟩))
  refine fB hw (fun u w' ⟨c, s', β', ⟨pu, hwr, b, v', hz, hb, hv⟩, k1, k2, k3⟩ => ?_)
  rw [hwr] at k1
  have hH : ∀ g, g < 64 ∨ s'.nx ≤ g → s'.H.get g = aH.get g := fun g hg => by
    rcases hg with hg | hg
    · exact pu.kp g hg (by rw [hwr]; simp)
    · exact pu.kq g hg
  have haft : nS aH.get s'.H 64 s'.nx [] = s'.H.get := by
    funext g
    unfold nS
    by_cases hg : 64 ≤ g ∧ g < s'.nx
    · rw [if_pos (Or.inl hg)]
    · rw [if_neg (by simp only [List.not_mem_nil, or_false]; exact hg), hH g (by omega)]
  obtain ⟨q1, q2, q3⟩ := after0 (β := β) (V := V) (H := s'.H) (n1 := s'.nx) (H0 := aH) (nx := nx) (fun g hg hn => by rw [hH g hg] at hn; exact ⟨hn, aH_dom g hn⟩) hV k1 (by rw [haft]; exact k3) hz hb k2
  exact ⟨_, q1, hv _ _ q2, q3⟩
end
set_option maxRecDepth 20000
inductive Sj where
  | i (k : IntKind)
  | b
  | x (c : CV)
  | p (g o : Nat)
  | s (g o n c lo : Nat)
  | xs (g c : Nat) (ex : Bool)
  | fz (l : List Sj) (o n : Nat)
  | fy
  | fi (k : IntKind)
  | fj (k : IntKind)
  | wr
  | agg (l : List Sj)
  | tup (l : List Sj)
  | un (k : Sj)
  | bs
inductive SjO where
  | c (l : List Sj) (e : TypeId) (r : Bool)
  | w
def aT (i : Nat) : CV → CV
  | .agg l => l.getD i .nils
  | .tup l => l.getD i .nils
  | .fz l _ _ => l.getD i .nils
  | _ => .nils
def gK : CV → Nat
  | .xs _ _ n _ _ => n
  | .fy _ _ n _ => n
  | _ => 0
def offX : CV → Nat
  | .fy _ o _ _ => o
  | _ => 0
def rowX : CV → List aJ
  | .fy (.c cs) _ _ _ => cs
  | _ => []
def rowI : CV → List Int
  | .fy (.i _ zs) _ _ _ => zs
  | .fy (.j _ _ zs) _ _ _ => zs
  | _ => []
def bsX : CV → Nat
  | .fy (.j _ b _) _ _ _ => b
  | _ => 0
def unW : CV → CV
  | .wr c => c
  | c => c
mutual
def rX : Sj → CV → CV
  | .i k, c => .int true k (aS c)
  | .b, c => .bool true (yS c)
  | .x v, _ => v
  | .p g o, _ => .ptr g o
  | .s g o n c lo, _ => .sl g o n c lo
  | .xs g cc ex, c => .xs g 0 (gK c) cc ex
  | .fz l o n, c => .fz (dO l c 0) o n
  | .fy, c => .fy (.c (rowX c)) (offX c) (gK c) true
  | .fi k, c => .fy (.i k (rowI c)) (offX c) (gK c) true
  | .fj k, c => .fy (.j k (bsX c) (rowI c)) (offX c) (gK c) true
  | .wr, c => .wr (unW c)
  | .agg l, c => .agg (dO l c 0)
  | .tup l, c => .tup (dO l c 0)
  | .un k, c => rX k (unW c)
  | .bs, c => .bool false (yS c)
def dO : List Sj → CV → Nat → List CV
  | [], _, _ => []
  | s :: r, c, i => rX s (aT i c) :: dO r c (i + 1)
end
def eqX : CV → CV → Bool
  | .int false k (.ofNat a), .int false k' (.ofNat b) => Nat.beq (oQ k) (oQ k') && Nat.beq a b
  | .int false k (.negSucc a), .int false k' (.negSucc b) => Nat.beq (oQ k) (oQ k') && Nat.beq a b
  | .bool false true, .bool false true => true
  | .bool false false, .bool false false => true
  | .nils, .nils => true
  | .nilp, .nilp => true
  | .es, .es => true
  | _, _ => false
theorem eqX_ok {a b : CV} (h : eqX a b = true) : a = b := by
  unfold eqX at h
  split at h
  · rw [Bool.and_eq_true] at h
    obtain rfl := eQ h.1
    rw [Nat.eq_of_beq_eq_true h.2]
  · rw [Bool.and_eq_true] at h
    obtain rfl := eQ h.1
    rw [Nat.eq_of_beq_eq_true h.2]
  all_goals first | rfl | simp at h
def rn (ren : List (Nat × Nat)) (n : Nat) : Nat := match ren with
  | [] => n
  | (a, b) :: r => match Nat.beq a n with
    | true => b
    | false => rn r n
section
variable (ren : List (Nat × Nat)) (m : Nat)
mutual
noncomputable def lI : Sj → CV → Bool
  | .i k, .int s k' z => match Nat.beq (oQ k) (oQ k') with
    | true => wX s k z
    | false => false
  | .b, .bool _ _ => true
  | .x v, c => match eqX v c with
    | true => true
    | false => false
  | .p g o, .ptr g' o' => (Nat.blt g m && Nat.beq (rn ren g) g') && Nat.beq o o'
  | .s g o n c lo, .sl g' o' n' c' lo' => (((Nat.blt g m && Nat.beq (rn ren g) g') && (Nat.beq o o' && Nat.beq n n')) && Nat.beq c c') && Nat.beq lo lo'
  | .xs g cc ex, .xs g' o n cc' ex' => ((Nat.blt g m && Nat.beq (rn ren g) g') && (Nat.beq o 0 && Nat.beq cc cc')) && (ex == ex')
  | .fz l o n, .fz l' o' n' => match Nat.beq o o' && Nat.beq n n' with
    | true => lM l l'
    | false => false
  | .fy, .fy (.c _) _ _ _ => true
  | .fy, .nils => true
  | .fi k, .fy (.i k' _) _ _ _ => Nat.beq (oQ k) (oQ k')
  | .fj k, .fy (.j k' _ _) _ _ _ => Nat.beq (oQ k) (oQ k')
  | .wr, .wr _ => true
  | .wr, .fz l o n => clo 9 (.fz l o n)
  | .wr, .nils => true
  | .agg l, .agg l' => lM l l'
  | .tup l, .tup l' => lM l l'
  | .un k, .wr c => lI k c
  | .bs, .bool _ _ => true
  | _, _ => false
noncomputable def lM : List Sj → List CV → Bool
  | [], [] => true
  | s :: r, c :: l => match lI s c with
    | true => lM r l
    | false => false
  | _, _ => false
end
theorem rY : ∀ {l : List Sj} {c : CV} {i : Nat}, (dO l c i).length = l.length
  | [], _, _ => rfl
  | _ :: l, c, i => congrArg Nat.succ (rY (l := l) (c := c) (i := i + 1))
theorem fitJs_len : ∀ {l : List Sj} {cs : List CV}, lM ren m l cs = true → l.length = cs.length
  | [], [], _ => rfl
  | [], _ :: _, h => by simp [lM] at h
  | _ :: _, [], h => by simp [lM] at h
  | s :: l, c :: cs, h => by
    unfold lM at h
    split at h
    · exact congrArg Nat.succ (fitJs_len h)
    · simp at h
mutual
theorem uH : ∀ {s : Sj} {c : CV}, lI ren m s c = true → pU m (rn ren) c (rX s c)
  | .i k, c, h => by
    cases c <;> simp only [lI, Bool.false_eq_true] at h
    rename_i s k' z
    split at h
    · rename_i hk
      obtain rfl := eQ hk
      exact fun β β2 u hr hu => ⟨hu.1, fun _ => gJ h hu.2⟩
    · simp at h
  | .b, c, h => by
    cases c <;> simp only [lI, Bool.false_eq_true] at h
    exact fun β β2 u hr hu => hu
  | .x v, c, h => by
    have hv : eqX v c = true := by
      cases hq : eqX v c with
      | true => rfl
      | false => cases c <;> simp [lI, hq] at h
    obtain rfl := eqX_ok hv
    have hc : clo 9 v = true := by
      unfold eqX at hv
      split at hv <;> first | rfl | simp at hv
    exact pU.clo hc
  | .p g o, c, h => by
    cases c <;> simp only [lI, Bool.false_eq_true, Bool.and_eq_true] at h
    rename_i g' o'
    obtain rfl := Nat.eq_of_beq_eq_true h.2
    exact pU.pt (ofLt h.1.1) o (Nat.eq_of_beq_eq_true h.1.2)
  | .s g o n cc lo, c, h => by
    cases c <;> simp only [lI, Bool.false_eq_true, Bool.and_eq_true] at h
    rename_i g' o' n' c' lo'
    obtain ⟨⟨⟨⟨h1, h2⟩, h3, h4⟩, h5⟩, h6⟩ := h
    obtain rfl := Nat.eq_of_beq_eq_true h3
    obtain rfl := Nat.eq_of_beq_eq_true h4
    obtain rfl := Nat.eq_of_beq_eq_true h5
    obtain rfl := Nat.eq_of_beq_eq_true h6
    have hg := Nat.eq_of_beq_eq_true h2
    rintro β β2 u hr ⟨a, c', k1, k2, k3, k4, k5⟩
    have := hr.ad g (ofLt h1)
    rw [hg] at this
    exact ⟨a, c', this.1.trans k1, k2, k3, k4, fun hh => by rw [this.2]; exact k5 hh⟩
  | .xs g cc ex, c, h => by
    cases c <;> simp only [lI, Bool.false_eq_true, Bool.and_eq_true] at h
    rename_i g' o n c' ex'
    obtain ⟨⟨⟨h1, h2⟩, h3, h4⟩, h5⟩ := h
    obtain rfl := Nat.eq_of_beq_eq_true h3
    obtain rfl := Nat.eq_of_beq_eq_true h4
    obtain rfl := eq_of_beq h5
    exact pU.row (ofLt h1) 0 n cc ex (Nat.eq_of_beq_eq_true h2)
  | .fz l o n, c, h => by
    cases c <;> simp only [lI, Bool.false_eq_true] at h
    rename_i l' o' n'
    split at h
    · rename_i hb
      rw [Bool.and_eq_true] at hb
      obtain rfl := Nat.eq_of_beq_eq_true hb.1
      obtain rfl := Nat.eq_of_beq_eq_true hb.2
      rintro β β2 u hr ⟨a, off, c', us, h1, h2, h3, h4, h5⟩
      refine ⟨a, off, c', us, h1, h2, h3, hr.sx _ _ h4, ?_⟩
      rw [rY, fitJs_len ren m h]
      exact sJ (root := .fz l' o n) (i := 0) (fun j => by show l'.getD j .nils = l'.getD (0 + j) .nils; rw [Nat.zero_add]) h β β2 _ hr h5
    · simp at h
  | .fy, c, h => by
    cases c with
    | fy r o n uu =>
      cases r with
      | c cs => exact fun β β2 u hr hu => RV.sxs hr.sx 9 (.fy (.c cs) o n true) u rfl hu
      | i _ _ => simp [lI] at h
      | j _ _ _ => simp [lI] at h
    | nils => exact fun β β2 u hr hu => ⟨Nat.le_refl _, Nat.zero_le _, Or.inl ⟨_, _, hu, rfl⟩⟩
    | _ => simp [lI] at h
  | .fi k, c, h => by
    cases c with
    | fy r o n uu =>
      cases r with
      | c _ => simp [lI] at h
      | j _ _ _ => simp [lI] at h
      | i k' zs =>
        simp only [lI] at h
        obtain rfl := eQ h
        exact fun β β2 u hr hu => RV.sxs hr.sx 9 (.fy (.i k zs) o n true) u rfl hu
    | _ => simp [lI] at h
  | .fj k, c, h => by
    cases c with
    | fy r o n uu =>
      cases r with
      | c _ => simp [lI] at h
      | i _ _ => simp [lI] at h
      | j k' b zs =>
        simp only [lI] at h
        obtain rfl := eQ h
        exact fun β β2 u hr hu => RV.sxs hr.sx 9 (.fy (.j k b zs) o n true) u rfl hu
    | _ => simp [lI] at h
  | .wr, c, h => by
    cases c with
    | wr c => exact fun β β2 u hr hu => RV.sxs hr.sx 9 (.wr c) u rfl hu
    | fz l o n =>
      simp only [lI] at h
      exact fun β β2 u hr hu => ⟨h, by obtain ⟨a, off, c', us, h1, _⟩ := hu; exact ⟨_, _, _, h1⟩, RV.sxs hr.sx 9 (.fz l o n) u h hu⟩
    | nils => exact fun β β2 u hr hu => ⟨rfl, ⟨_, _, _, hu⟩, hu⟩
    | _ => simp [lI] at h
  | .agg l, c, h => by
    cases c <;> simp only [lI, Bool.false_eq_true] at h
    rename_i l'
    rintro β β2 u hr ⟨us, e, hu⟩
    exact ⟨us, e, sJ (root := .agg l') (i := 0) (fun j => by show l'.getD j .nils = l'.getD (0 + j) .nils; rw [Nat.zero_add]) h β β2 _ hr hu⟩
  | .tup l, c, h => by
    cases c <;> simp only [lI, Bool.false_eq_true] at h
    rename_i l'
    rintro β β2 u hr ⟨us, e, hu⟩
    exact ⟨us, e, sJ (root := .tup l') (i := 0) (fun j => by show l'.getD j .nils = l'.getD (0 + j) .nils; rw [Nat.zero_add]) h β β2 _ hr hu⟩
  | .un k, c, h => by
    cases c <;> simp only [lI, Bool.false_eq_true] at h
    rintro β β2 u hr ⟨_, _, hu⟩
    exact uH h β β2 u hr hu
  | .bs, c, h => by
    cases c <;> simp only [lI, Bool.false_eq_true] at h
    exact fun β β2 u hr hu => hu
theorem sJ : ∀ {l : List Sj} {cs : List CV} {root : CV} {i : Nat}, (∀ j, cs.getD j .nils = aT (i + j) root) → lM ren m l cs = true → ∀ (β β2 : Names) (us : List Value), Rel m (rn ren) β β2 → bJ β cs us → bJ β2 (dO l root i) us
  | [], cs, root, i, _, h, β, β2, us, hr, hu => by
    cases cs with
    | nil => exact hu
    | cons c cs => simp [lM] at h
  | s :: l, cs, root, i, hroot, h, β, β2, us, hr, hu => by
    cases cs with
    | nil => simp [lM] at h
    | cons c cs =>
      obtain ⟨u, us', e, h1, h2⟩ := hu
      unfold lM at h
      split at h
      · rename_i hc
        have h0 : aT i root = c := (hroot 0).symm
        refine ⟨u, us', e, ?_, sJ (fun j => by
          have := hroot (j + 1)
          rw [show i + 1 + j = i + (j + 1) by omega]
          exact this) h β β2 us' hr h2⟩
        rw [h0]
        exact uH hc β β2 u hr h1
      · simp at h
end
def dU : HO → List CV
  | .cells c _ _ => c
  | _ => []
def lT : HO → List aJ
  | .rw cs => cs
  | _ => []
def mkO : SjO → HO → HO
  | .c l e r, o => .cells (dO l (.agg (dU o)) 0) e r
  | .w, o => .rw (lT o)
noncomputable def fitO : SjO → HO → Bool
  | .c l e r, .cells cs e' r' => match Nat.beq e e' && (r == r') with
    | true => lM ren m l cs
    | false => false
  | .w, .rw _ => true
  | _, _ => false
theorem fitJs_get : ∀ {l : List Sj} {cs : List CV} {root : CV} {i : Nat}, (∀ j, cs.getD j .nils = aT (i + j) root) → lM ren m l cs = true → ∀ (j : Nat) (x : CV), (dO l root i)[j]? = some x → ∃ c, cs[j]? = some c ∧ pU m (rn ren) c x
  | [], cs, root, i, _, h, j, x, hx => by simp [dO] at hx
  | s :: l, cs, root, i, hroot, h, j, x, hx => by
    cases cs with
    | nil => simp [lM] at h
    | cons c cs =>
      unfold lM at h
      split at h
      · rename_i hc
        have h0 : aT i root = c := (hroot 0).symm
        cases j with
        | zero =>
          obtain rfl := Option.some.inj hx
          exact ⟨c, rfl, by rw [h0]; exact uH ren m hc⟩
        | succ j =>
          exact fitJs_get (i := i + 1) (fun j => by
            have := hroot (j + 1)
            rw [show i + 1 + j = i + (j + 1) by omega]
            exact this) h j x hx
      · simp at h
theorem fitO_ok {s : SjO} {o : HO} (h : fitO ren m s o = true) : LeO m (rn ren) o (mkO s o) := by
  cases s with
  | c l e r =>
    cases o <;> simp only [fitO, Bool.false_eq_true] at h
    rename_i cs e' r'
    split at h
    · rename_i hb
      rw [Bool.and_eq_true] at hb
      obtain rfl := Nat.eq_of_beq_eq_true hb.1
      obtain rfl := eq_of_beq hb.2
      rintro β β2 ob hr ⟨us, lo, hi, h1, h2, h3, h4, h5⟩
      have hl : (dO l (.agg cs) 0).length = cs.length := (rY).trans (fitJs_len ren m h)
      refine ⟨us, lo, hi, h1, ?_, fun hh => ?_, h4, fun i x hx => ?_⟩
      · show (dO l (.agg cs) 0).length ≤ _
        rw [hl]; exact h2
      · show _ = (dO l (.agg cs) 0).length
        rw [hl]; exact h3 hh
      · obtain ⟨c, k1, k2⟩ := fitJs_get ren m (root := .agg cs) (i := 0) (fun j => by show cs.getD j .nils = cs.getD (0 + j) .nils; rw [Nat.zero_add]) h i x hx
        obtain ⟨u, q1, q2⟩ := h5 i c k1
        exact ⟨u, q1, k2 β β2 u hr q2⟩
    · simp at h
  | w =>
    cases o <;> simp only [fitO, Bool.false_eq_true] at h
    exact LeO.rows _
end
structure SjT where
  sl : List (Nat × Sj)
  hp : List (Nat × SjO)
  nx : Nat
noncomputable def hpA : List (Nat × HO) → Tr HO
  | [] => aH
  | (t, c) :: r => (hpA r).set t c
theorem hpA_get {t : Nat} {c : HO} : ∀ {l : List (Nat × HO)}, (hpA l).get t = some c → (t, c) ∈ l ∨ aH.get t = some c
  | [], h => Or.inr h
  | (t', c') :: r, h => by
    have h' : ((hpA r).set t' c').get t = some c := h
    rw [Tr.get_set] at h'
    by_cases e : t' = t
    · rw [if_pos e] at h'
      rw [← Option.some.inj h', e]; exact Or.inl List.mem_cons_self
    · rw [if_neg e] at h'
      exact (hpA_get h').imp (List.mem_cons_of_mem _) (fun q => q)
def jSl (x : Nat → CV) : List (Nat × Sj) → List (Nat × CV)
  | [] => []
  | (t, k) :: r => (t, rX k (x t)) :: jSl x r
def jHp (y : Nat → HO) : List (Nat × SjO) → List (Nat × HO)
  | [] => []
  | (t, k) :: r => (t, mkO k (y t)) :: jHp y r
noncomputable def y5 (T : SjT) (x : Nat → CV) (y : Nat → HO) : aP := ⟨frL (jSl x T.sl) .e, hpA (jHp y T.hp), T.nx, []⟩
section
variable (ren : List (Nat × Nat)) (m : Nat)
noncomputable def fitSl (fr : dV) : List (Nat × Sj) → Bool
  | [] => true
  | (t, k) :: r => match fr.get t with
    | some c => match lI ren m k c with
      | true => fitSl fr r
      | false => false
    | none => false
noncomputable def fitHp (H : Tr HO) : List (Nat × SjO) → Bool
  | [] => true
  | (n, k) :: r => match Nat.ble 64 n && Nat.blt n m, H.get (rn ren n) with
    | true, some o => match fitO ren m k o with
      | true => fitHp H r
      | false => false
    | _, _ => false
def notIn (a : Nat) : List (Nat × SjO) → Bool
  | [] => true
  | (n, _) :: r => match Nat.beq (rn ren n) a with
    | true => false
    | false => notIn a r
def injB : List (Nat × SjO) → Bool
  | [] => true
  | (n, _) :: r => match notIn ren (rn ren n) r with
    | true => injB r
    | false => false
def rngB (lo nx : Nat) : Nat → Bool
  | 0 => true
  | k + 1 => match Nat.ble 64 (rn ren (lo + k)) && Nat.blt (rn ren (lo + k)) nx with
    | true => rngB lo nx k
    | false => false
def renB : List (Nat × Nat) → Bool
  | [] => true
  | (a, _) :: r => match Nat.ble 64 a with
    | true => renB r
    | false => false
theorem fitSl_mem {fr : dV} : ∀ {l : List (Nat × Sj)}, fitSl ren m fr l = true → ∀ t k, (t, k) ∈ l → ∃ c, fr.get t = some c ∧ lI ren m k c = true
  | [], _, _, _, h => by simp at h
  | (t', k') :: r, h, t, k, hm => by
    unfold fitSl at h
    split at h
    · rename_i c hc
      split at h
      · rename_i hf
        rcases List.mem_cons.1 hm with e | e
        · simp only [Prod.mk.injEq] at e
          obtain ⟨rfl, rfl⟩ := e
          exact ⟨c, hc, hf⟩
        · exact fitSl_mem h t k e
      · simp at h
    · simp at h
theorem fitHp_mem {H : Tr HO} : ∀ {l : List (Nat × SjO)}, fitHp ren m H l = true → ∀ n k, (n, k) ∈ l → 64 ≤ n ∧ n < m ∧ ∃ o, H.get (rn ren n) = some o ∧ fitO ren m k o = true
  | [], _, _, _, h => by simp at h
  | (t', k') :: r, h, n, k, hm => by
    unfold fitHp at h
    split at h
    · rename_i o hb ho
      rw [Bool.and_eq_true] at hb
      split at h
      · rename_i hf
        rcases List.mem_cons.1 hm with e | e
        · simp only [Prod.mk.injEq] at e
          obtain ⟨rfl, rfl⟩ := e
          exact ⟨dK hb.1, ofLt hb.2, o, ho, hf⟩
        · exact fitHp_mem h n k e
      · simp at h
    · simp at h
theorem notIn_ok {a : Nat} : ∀ {l : List (Nat × SjO)}, notIn ren a l = true → ∀ n k, (n, k) ∈ l → rn ren n ≠ a
  | [], _, _, _, h => by simp at h
  | (n', k') :: r, h, n, k, hm => by
    unfold notIn at h
    split at h
    · simp at h
    · rename_i hb
      rcases List.mem_cons.1 hm with e | e
      · simp only [Prod.mk.injEq] at e
        obtain ⟨rfl, rfl⟩ := e
        intro he
        rw [he, Nat.beq_refl] at hb; simp at hb
      · exact notIn_ok h n k e
theorem injB_ok : ∀ {l : List (Nat × SjO)}, injB ren l = true → ∀ n k n' k', (n, k) ∈ l → (n', k') ∈ l → rn ren n = rn ren n' → n = n'
  | [], _, _, _, _, _, h, _, _ => by simp at h
  | (a, q) :: r, h, n, k, n', k', h1, h2, he => by
    unfold injB at h
    split at h
    · rename_i hb
      rcases List.mem_cons.1 h1 with e | e <;> rcases List.mem_cons.1 h2 with e' | e'
      · simp only [Prod.mk.injEq] at e e'
        rw [e.1, e'.1]
      · simp only [Prod.mk.injEq] at e
        rw [e.1] at he
        exact absurd he.symm (notIn_ok ren hb n' k' e')
      · simp only [Prod.mk.injEq] at e'
        rw [e'.1] at he
        exact absurd he (notIn_ok ren hb n k e)
      · exact injB_ok h n k n' k' e e' he
    · simp at h
theorem rngB_ok {lo nx : Nat} : ∀ {k : Nat}, rngB ren lo nx k = true → ∀ n, lo ≤ n → n < lo + k → 64 ≤ rn ren n ∧ rn ren n < nx
  | 0, _, n, h1, h2 => by omega
  | k + 1, h, n, h1, h2 => by
    unfold rngB at h
    split at h
    · rename_i hb
      rw [Bool.and_eq_true] at hb
      by_cases e : n = lo + k
      · rw [e]; exact ⟨dK hb.1, ofLt hb.2⟩
      · exact rngB_ok h n h1 (by omega)
    · simp at h
theorem rE : ∀ {ren : List (Nat × Nat)}, renB ren = true → ∀ n, n < 64 → rn ren n = n
  | [], _, _, _ => rfl
  | (a, b) :: r, h, n, hn => by
    unfold renB at h
    split at h
    · rename_i hb
      have := dK hb
      unfold rn
      have e : Nat.beq a n = false := by
        cases hq : Nat.beq a n with
        | false => rfl
        | true => have := Nat.eq_of_beq_eq_true hq; omega
      rw [e]
      exact rE h n hn
    · simp at h
end
def nilB {α : Type} : List α → Bool
  | [] => true
  | _ => false
noncomputable def iR (ren : List (Nat × Nat)) (T : SjT) (s : aP) : Bool := match Nat.ble 64 T.nx && renB ren && (nilB s.wr && injB ren T.hp) && rngB ren 64 s.nx (T.nx - 64), pJ s.H.get with
  | true, true => match fitSl ren T.nx s.fr T.sl with
    | true => fitHp ren T.nx s.H T.hp
    | false => false
  | _, _ => false
theorem jSl_mem {x : Nat → CV} {t : Nat} {c : CV} : ∀ {l : List (Nat × Sj)}, (t, c) ∈ jSl x l → ∃ k, (t, k) ∈ l ∧ c = rX k (x t)
  | [], h => by simp [jSl] at h
  | (t', k') :: r, h => by
    rcases List.mem_cons.1 h with e | e
    · simp only [Prod.mk.injEq] at e
      obtain ⟨rfl, rfl⟩ := e
      exact ⟨k', List.mem_cons_self, rfl⟩
    · obtain ⟨k, h1, h2⟩ := jSl_mem e
      exact ⟨k, List.mem_cons_of_mem _ h1, h2⟩
theorem yK {y : Nat → HO} {n : Nat} {o : HO} : ∀ {l : List (Nat × SjO)}, (n, o) ∈ jHp y l → ∃ k, (n, k) ∈ l ∧ o = mkO k (y n)
  | [], h => by simp [jHp] at h
  | (t', k') :: r, h => by
    rcases List.mem_cons.1 h with e | e
    · simp only [Prod.mk.injEq] at e
      obtain ⟨rfl, rfl⟩ := e
      exact ⟨k', List.mem_cons_self, rfl⟩
    · obtain ⟨k, h1, h2⟩ := yK e
      exact ⟨k, List.mem_cons_of_mem _ h1, h2⟩
theorem LeO.tab {m : Nat} {ρ : Nat → Nat} (ns : List Nat) : LeO m ρ (.ro (w32 ns)) (.ro (w32 ns)) := by
  rintro β β2 ob hr ⟨cs, e, fr, h1, h2⟩
  refine ⟨cs, e, fr, h1, fun i x hx => ?_⟩
  obtain ⟨u, k1, k2⟩ := h2 i x hx
  unfold w32 at hx
  rw [List.getElem?_map, Option.map_eq_some_iff] at hx
  obtain ⟨n, _, rfl⟩ := hx
  exact ⟨u, k1, k2⟩
theorem aH_ro {n : Nat} {o : HO} (h : aH.get n = some o) : ∃ ns, o = .ro (w32 ns) := by
  have e : hpT aV = aH := by
    have : pJ aV = true := by kernel_rfl
    unfold hpT; rw [this]
  exact hpT_ro aV (by rw [e]; exact h)
noncomputable def fU (s : aP) (t : Nat) : CV := (s.fr.get t).getD .nils
noncomputable def fC (ren : List (Nat × Nat)) (s : aP) (n : Nat) : HO := (s.H.get (rn ren n)).getD (.rw [])
theorem jS_pu {T : SjT} {x : Nat → CV} {y : Nat → HO} (h64 : 64 ≤ T.nx) (h : ∀ n k, (n, k) ∈ T.hp → 64 ≤ n ∧ n < T.nx) : Pu 64 [] aH (y5 T x y) := by
  have key : ∀ n, (hpA (jHp y T.hp)).get n ≠ none → (64 ≤ n ∧ n < T.nx) ∨ (n < 64 ∧ (hpA (jHp y T.hp)).get n = aH.get n) := fun n hn => by
    obtain ⟨o, ho⟩ := Option.ne_none_iff_exists'.1 hn
    rcases hpA_get ho with q | q
    · obtain ⟨k, h1, _⟩ := yK q
      exact Or.inl (h n k h1)
    · exact Or.inr ⟨aH_dom n (by show aH.get n ≠ none; rw [q]; simp), by rw [ho, q]⟩
  have out : ∀ n, ¬ (64 ≤ n ∧ n < T.nx) → (hpA (jHp y T.hp)).get n = aH.get n := fun n hn => by
    have hh : ∀ {l : List (Nat × HO)}, (∀ o, (n, o) ∉ l) → (hpA l).get n = aH.get n := by
      intro l
      induction l with
      | nil => intro _; rfl
      | cons a r ih =>
        intro hno
        obtain ⟨t, c⟩ := a
        show ((hpA r).set t c).get n = _
        rw [Tr.get_set]
        have : t ≠ n := fun e => hno c (by rw [e]; exact List.mem_cons_self)
        rw [if_neg this]
        exact ih (fun o ho => hno o (List.mem_cons_of_mem _ ho))
    refine hh (fun o ho => ?_)
    obtain ⟨k, h1, _⟩ := yK ho
    exact hn (h n k h1)
  refine ⟨h64, fun _ h => by simp at h, fun n hn => ?_, fun n hn _ => out n (by omega), fun n hn => out n (by have : T.nx ≤ n := hn; omega), fun p hp => by simp [y5] at hp⟩
  rcases key n hn with q | q
  · exact q.2
  · exact Nat.lt_of_lt_of_le q.1 h64
theorem fit_ok {ren : List (Nat × Nat)} {T : SjT} {s : aP} (h : iR ren T s = true) : Wk 64 [] (rn ren) s (y5 T (fU s) (fC ren s)) ∧ ∀ x y, Pu 64 [] aH (y5 T x y) := by
  unfold iR at h
  split at h
  · rename_i hb htab
    simp only [Bool.and_eq_true] at hb
    obtain ⟨⟨⟨h64, hren⟩, hwr, hinj⟩, hrng⟩ := hb
    have h64 := dK h64
    split at h
    · rename_i hsl
      have hmem := fitHp_mem ren T.nx h
      refine ⟨⟨fun t c hc => ?_, fun n o ho => ?_, fun n hn => rE hren n hn, fun n h1 h2 => rngB_ok ren hrng n h1 (by have : n < T.nx := h2; omega), fun n k hn hk e => ?_, fun p hp => ?_, h64⟩, fun x y => jS_pu h64 (fun n k hk => ⟨(hmem n k hk).1, (hmem n k hk).2.1⟩)⟩
      · obtain ⟨k, h1, rfl⟩ := jSl_mem (frL_get hc)
        obtain ⟨c', k1, k2⟩ := fitSl_mem ren T.nx hsl t k h1
        refine ⟨c', k1, ?_⟩
        have : fU s t = c' := by unfold fU; rw [k1]; rfl
        rw [this]
        exact uH ren T.nx k2
      · rcases hpA_get (show (hpA (jHp (fC ren s) T.hp)).get n = some o from ho) with q | q
        · obtain ⟨k, h1, rfl⟩ := yK q
          obtain ⟨_, k0, o', k1, k2⟩ := hmem n k h1
          refine ⟨k0, o', k1, ?_⟩
          have : fC ren s n = o' := by unfold fC; rw [k1]; rfl
          rw [this]
          exact fitO_ok ren T.nx k2
        · obtain ⟨hn, hv⟩ := tabB_ok htab n o q
          obtain ⟨ns, rfl⟩ := aH_ro q
          exact ⟨Nat.lt_of_lt_of_le hn h64, _, by rw [rE hren n hn]; exact hv, LeO.tab ns⟩
      · have key : ∀ n, acc [] (y5 T (fU s) (fC ren s)).H n ≠ none → (∃ k, (n, k) ∈ T.hp) ∨ n < 64 := fun n hn => by
          obtain ⟨o, ho⟩ := Option.ne_none_iff_exists'.1 hn
          rcases hpA_get (show (hpA (jHp (fC ren s) T.hp)).get n = some o from ho) with q | q
          · obtain ⟨k, h1, _⟩ := yK q
            exact Or.inl ⟨k, h1⟩
          · exact Or.inr (tabB_ok htab n o q).1
        rcases key n hn with ⟨a, ha⟩ | ha <;> rcases key k hk with ⟨b, hb⟩ | hb
        · exact injB_ok ren hinj n a k b ha hb e
        · have h1 := hmem n a ha
          have h2 := rngB_ok ren hrng n h1.1 (by omega)
          rw [rE hren k hb] at e
          omega
        · have h1 := hmem k b hb
          have h2 := rngB_ok ren hrng k h1.1 (by omega)
          rw [rE hren n ha] at e
          omega
        · rw [rE hren n ha, rE hren k hb] at e
          exact e
      · cases hw : s.wr with
        | nil => rw [hw] at hp; simp at hp
        | cons a r => rw [hw] at hwr; simp [nilB] at hwr
    · simp at h
  · simp at h
theorem iC.fit {CT : bQ} {N : Nat} {ren : List (Nat × Nat)} {T : SjT} {c : Code} {s s' : aP} {e : Ex} (h : iR ren T s = true) (h2 : iC CT N aH c (y5 T (fU s) (fC ren s)) e s') : iC CT N aH c s e s' := .weak (fit_ok h).1 ((fit_ok h).2 _ _) h2
def kvR (k : IntKind) (zs : List Int) (m : Nat) : List CV := (List.range m).map fun j => .int true k (zs.getD j 0)
theorem osK_rv {β : Names} {k : IntKind} {ks : List CV} {zs : List Int} {us : List Value} {m : Nat} (h : osK k ks = some zs) (hl : zs.length = m) (hu : bJ β ks us) : bJ β (kvR k zs m) us := by
  obtain ⟨e, hw⟩ := osK_ok h hu
  rw [e]
  refine bJ.of_get (by simp [kvR, hl]) (fun j x hx => ?_)
  unfold kvR at hx
  rw [List.getElem?_map, Option.map_eq_some_iff] at hx
  obtain ⟨j', hj', rfl⟩ := hx
  have hlt : j < m := by have := (List.getElem?_eq_some_iff.1 hj').1; simpa using this
  rw [List.getElem?_range hlt] at hj'
  obtain rfl := Option.some.inj hj'
  have hj : j < zs.length := by omega
  have hd : zs.getD j 0 = zs[j] := by rw [List.getD_eq_getElem?_getD, List.getElem?_eq_getElem hj]; rfl
  rw [hd]
  exact ⟨.int k zs[j], by rw [List.getElem?_map, List.getElem?_eq_getElem hj]; rfl, rfl, fun _ => hw _ (List.getElem_mem hj)⟩
theorem hdrV_eq {a b c d : Int} {zs : List Int} (hl : zs.length = 64) : hdrV (a :: (zs ++ [b, c, d])) = kvR .u32 [a] 1 ++ kvR .u8 zs 64 ++ kvR .u32 [b, c, d] 3 := by
  have g : ∀ j, (zs ++ [b, c, d]).getD (64 + j) 0 = [b, c, d].getD j 0 := fun j => by
    rw [List.getD_eq_getElem?_getD, List.getElem?_append_right (by omega), hl, Nat.add_sub_cancel_left, ← List.getD_eq_getElem?_getD]
  have e : (List.range 64).map (fun j => CV.int true .u8 ((a :: (zs ++ [b, c, d])).getD (j + 1) 0)) = kvR .u8 zs 64 := List.map_congr_left (fun j hj => by
    have hj := List.mem_range.1 hj
    show CV.int true .u8 ((zs ++ [b, c, d]).getD j 0) = _
    rw [List.getD_eq_getElem?_getD, List.getElem?_append_left (by omega), ← List.getD_eq_getElem?_getD])
  unfold hdrV
  rw [e]
  show _ :: kvR .u8 zs 64 ++ [.int true .u32 ((zs ++ [b, c, d]).getD (64 + 0) 0), .int true .u32 ((zs ++ [b, c, d]).getD (64 + 1) 0), .int true .u32 ((zs ++ [b, c, d]).getD (64 + 2) 0)] = _
  rw [g, g, g]
  rfl
def txsT : List CV → Option (List iD)
  | [] => some []
  | a :: b :: c :: d :: r => match txT (.agg [a, b, c, d]), txsT r with
    | some t, some ts => some (t :: ts)
    | _, _ => none
  | _ => none
theorem txsT_ok : ∀ {l : List CV} {ts : List iD}, txsT l = some ts → l = ts.foldr (fun t r => txC t ++ r) []
  | [], ts, h => by
    obtain rfl := Option.some.inj h
    rfl
  | [_], _, h => by simp [txsT] at h
  | [_, _], _, h => by simp [txsT] at h
  | [_, _, _], _, h => by simp [txsT] at h
  | a :: b :: c :: d :: r, ts, h => by
    unfold txsT at h
    split at h
    · rename_i t ts' h1 h2
      obtain rfl := Option.some.inj h
      have e := txT_ok h1
      injection e with e
      show a :: b :: c :: d :: r = txC t ++ ts'.foldr (fun t r => txC t ++ r) []
      rw [← e, ← txsT_ok h2]
      rfl
    · simp at h
def blkOf (l : List CV) : Option (List Int × List iD) := match osK .u32 (l.take 1), osK .u8 ((l.drop 1).take 64), osK .u32 (((l.drop 1).drop 64).take 3), ((l.drop 1).drop 64).drop 3 with
  | some [a], some zs, some [b, c, d], [.fz x 0 k] => match txsT x with
    | some ts => match Nat.beq zs.length 64 && Nat.beq k ts.length with
      | true => some (a :: (zs ++ [b, c, d]), ts)
      | false => none
    | none => none
  | _, _, _, _ => none
theorem blkOf_ok {β : Names} {l : List CV} {hd : List Int} {ts : List iD} {us : List Value} (h : blkOf l = some (hd, ts)) (hu : bJ β l us) : bJ β (hdrV hd ++ [nJ ts]) us := by
  unfold blkOf at h
  split at h
  · rename_i a zs b c d x k h1 h2 h3 h4
    split at h
    · rename_i ts' ht
      split at h
      · rename_i hb
        simp only [Option.some.injEq, Prod.mk.injEq] at h
        obtain ⟨rfl, rfl⟩ := h
        rw [Bool.and_eq_true] at hb
        have hl := Nat.eq_of_beq_eq_true hb.1
        have hk := Nat.eq_of_beq_eq_true hb.2
        subst hk
        have r1 := osK_rv (m := 1) h1 rfl (hu.take 1)
        have r2 := osK_rv (m := 64) h2 hl ((hu.drop 1).take 64)
        have r3 := osK_rv (m := 3) h3 rfl (((hu.drop 1).drop 64).take 3)
        have r4 := ((hu.drop 1).drop 64).drop 3
        rw [h4, txsT_ok ht] at r4
        rw [hdrV_eq hl, List.append_assoc, List.append_assoc]
        rw [← List.take_append_drop 1 us, ← List.take_append_drop 64 (us.drop 1), ← List.take_append_drop 3 ((us.drop 1).drop 64)]
        exact r1.append (r2.append (r3.append r4))
      · simp at h
    · simp at h
  · simp at h
def tipN (v : CV) : List Int := (List.range 32).map fun j => aS (vJ (j + 1) (vJ 0 v))
def rowN (v : CV) : List aJ := match vJ 33 (vJ 0 v) with
  | .fy (.c cs) _ _ _ => cs
  | _ => []
def numN (v : CV) : Nat := match vJ 33 (vJ 0 v) with
  | .fy _ _ n _ => n
  | _ => 0
def undN (v : CV) : List aJ × Nat × Nat := match vJ 0 (vJ 1 v) with
  | .fy (.c cs) o n _ => (cs, o, n)
  | _ => ([], 0, 0)
def okC (h1 : Int) (v : CV) : CV := .tup [ledV h1 (tipN v) (rowN v) 0 (min (numN v) 100000), .agg [.fy (.c (undN v).1) (undN v).2.1 (undN v).2.2 true], .int false .i64 0]
def erC (v : CV) : CV := .tup (zsV ++ [.int true .i64 ((sN zsV v).getD 1)])
theorem erC_le {v : CV} {e : Int} (h : sN zsV v = some e) : l7 v (erC v) := by
  have he : (sN zsV v).getD 1 = e := by rw [h]; rfl
  unfold erC
  rw [he]
  unfold sN at h
  split at h
  · split at h
    · rename_i a b x y s e' hz
      split at h
      · rename_i hb
        obtain rfl := Option.some.inj h
        simp only [Bool.and_eq_true] at hb
        have key : ∀ {a x : CV}, sN.eqZ a x = true → ∃ l, a = .agg l ∧ x = .agg (fillT l []) := fun {a x} hq => by
          unfold sN.eqZ at hq
          split at hq
          · rename_i l m
            split at hq
            · rename_i hm
              rw [uY hm]
              exact ⟨l, rfl, rfl⟩
            · simp at hq
          · simp at hq
        obtain ⟨la, rfl, rfl⟩ := key hb.1.1
        obtain ⟨lb, rfl, rfl⟩ := key hb.1.2
        unfold zsV at hz ⊢
        simp only [List.cons.injEq, CV.agg.injEq, and_true] at hz
        obtain ⟨rfl, rfl⟩ := hz
        rintro β u ⟨us, rfl, u1, r1, e1, q1, u2, r2, e2, q2, u3, r3, e3, q3, e4⟩
        exact ⟨us, rfl, u1, r1, e1, q1, u2, r2, e2, q2, u3, r3, e3, ⟨q3.1, fun _ => gJ hb.2 q3.2⟩, e4⟩
      · simp at h
    · simp at h
  · simp at h
theorem okC_le {v : CV} {m : Nat} {h1 : Int} (h : conG v = some (m, h1)) (hm : m ≤ 100000) : l7 v (okC h1 v) := by
  unfold conG at h
  split at h
  · rename_i h' r u
    split at h
    · rename_i zs cs m' u' hz hd hu
      simp only [Option.some.injEq, Prod.mk.injEq] at h
      obtain ⟨rfl, rfl⟩ := h
      obtain ⟨e, hl⟩ := unk_ok hz
      rw [row_n .u8 hl] at e
      have er : r = (List.range 32).map (fun j => .int true .u8 (zs.getD j 0)) ++ [.fy (.c cs) 0 m' u'] := by
        rw [← e, ← hd, List.take_append_drop]
      subst er
      have e1 : okC h' (.tup [.agg (.int true .i64 h' :: ((List.range 32).map (fun j => .int true .u8 (zs.getD j 0)) ++ [.fy (.c cs) 0 m' u'])), .agg [u], .int false .i64 (.ofNat 0)]) = .tup [.agg (.int true .i64 h' :: ((List.range 32).map (fun j => .int true .u8 (zs.getD j 0)) ++ [.fy (.c cs) 0 (min m' 100000) true])), .agg [.fy (.c (undN (.tup [.nils, .agg [u]])).1) (undN (.tup [.nils, .agg [u]])).2.1 (undN (.tup [.nils, .agg [u]])).2.2 true], .int false .i64 0] := by kernel_rfl
      rw [e1, Nat.min_eq_left hm]
      rintro β w ⟨us, rfl, u1, r1, e1, q1, u2, r2, e2, ⟨us2, rfl, u4, r4, e5, q4, e6⟩, u3, r3, e3, q3, e4⟩
      refine ⟨us, rfl, u1, r1, e1, ?_, _, r2, e2, ⟨us2, rfl, u4, r4, e5, ?_, e6⟩, u3, r3, e3, q3, e4⟩
      · obtain ⟨us1, rfl, u5, r5, e7, q5, q6⟩ := q1
        refine ⟨us1, rfl, u5, r5, e7, q5, ?_⟩
        have a := q6.take 32
        have b := q6.drop 32
        rw [List.take_left' (by simp)] at a
        rw [List.drop_left' (by simp)] at b
        rw [← List.take_append_drop 32 r5]
        exact a.append b
      · cases u with
        | nils => exact ⟨Nat.le_refl _, Nat.zero_le _, Or.inl ⟨_, _, q4, rfl⟩⟩
        | fy r o n f =>
          cases r with
          | c cs => exact q4
          | i k l => simp [unO] at hu
          | j k b l => simp [unO] at hu
        | _ => simp [unO] at hu
    · simp at h
  · simp at h
end Go.Proofs.YtcgdimlbbdfdpaaGreatDoor
