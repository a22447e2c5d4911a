/-
  What this statement needs, part 13: the texts of it, one behind the other.
-/
import Derived.Test.YtcgdimlbbdfdpaaGreatDoorBase3
import Derived.Test.YtcgdimlbbdfdpaaGreatDoorBase9
import Derived.Test.YtcgdimlbbdfdpaaGreatDoorBase11
set_option maxRecDepth 100000
set_option linter.all false
namespace Go.Proofs.YtcgdimlbbdfdpaaGreatDoor
open Go Go.RowKit
def keyV (os : List Int) : List CV := (List.range 32).map (fun j => .int true .u8 (os.getD j 0)) ++ [.int true .u32 (os.getD 32 0)]
def inV (o : List Int) (q w : Int) : List CV := keyV o ++ [.int true .u32 q, .fz [.fz [.int true .u8 w] 0 1] 0 1]
def outV : List (Int × Int) → List CV
  | [] => []
  | p :: r => .int true .i64 p.1 :: .fz (scrC p.2) 0 4 :: outV r
def nullV : List CV := (List.range 32).map (fun _ => .int false .u8 0) ++ [.int false .u32 4294967295]
inductive iD where
  | cb (q v x : Int)
  | sp1 (o : List Int) (q w v x : Int)
  | sp2 (o : List Int) (q w v x v' x' : Int)
def iD.outs : iD → List (Int × Int)
  | .cb _ v x => [(v, x)]
  | .sp1 _ _ _ v x => [(v, x)]
  | .sp2 _ _ _ v x v' x' => [(v, x), (v', x')]
def iD.ins : iD → List CV
  | .cb q _ _ => nullV ++ [.int true .u32 q, .nils]
  | .sp1 o q w _ _ => inV o q w
  | .sp2 o q w _ _ _ _ => inV o q w
def txC (t : iD) : List CV := [.int false .u32 1, .fz t.ins 0 1, .fz (outV t.outs) 0 t.outs.length, .int false .u32 0]
def isN (s : Bool) (k : IntKind) (n : Nat) : CV → Bool
  | .int false k' (.ofNat m) => Nat.beq (oQ k) (oQ k') && Nat.beq m n
  | _ => false
def numsT (k : IntKind) : List CV → Option (List Int)
  | [] => some []
  | .int true k' z :: r => match Nat.beq (oQ k) (oQ k'), numsT k r with
    | true, some l => some (z :: l)
    | _, _ => none
  | _ => none
theorem numsT_ok {k : IntKind} : ∀ {l : List CV} {zs : List Int}, numsT k l = some zs → l = zs.map (CV.int true k)
  | [], zs, h => by
    simp only [numsT, Option.some.injEq] at h
    rw [← h]; rfl
  | x :: r, zs, h => by
    unfold numsT at h
    split at h
    · rename_i heq; simp at heq
    · rename_i k' z r' heq
      simp only [List.cons.injEq] at heq
      obtain ⟨rfl, rfl⟩ := heq
      split at h
      · rename_i l hk hl
        obtain rfl := eQ hk
        obtain rfl := Option.some.inj h
        rw [numsT_ok hl]; rfl
      · simp at h
    · simp at h
def scrT : CV → Option Int
  | .fz [a, b, .int true .u8 x, c] 0 4 => match (isN false .u8 1 a && isN false .u8 1 b) && isN false .u8 5 c with
    | true => some x
    | false => none
  | _ => none
theorem nN {s : Bool} {k : IntKind} {n : Nat} {c : CV} (h : isN s k n c = true) : c = .int false k (.ofNat n) := by
  unfold isN at h
  split at h
  · rw [Bool.and_eq_true] at h
    obtain rfl := eQ h.1
    rw [Nat.eq_of_beq_eq_true h.2]
  · simp at h
theorem scrT_ok {c : CV} {x : Int} (h : scrT c = some x) : c = .fz (scrC x) 0 4 := by
  unfold scrT at h
  split at h
  · split at h
    · rename_i hb
      simp only [Bool.and_eq_true] at hb
      obtain rfl := Option.some.inj h
      rw [nN hb.1.1, nN hb.1.2, nN hb.2]
      rfl
    · simp at h
  · simp at h
def outsT : List CV → Option (List (Int × Int))
  | [] => some []
  | .int true .i64 v :: s :: r => match scrT s, outsT r with
    | some x, some l => some ((v, x) :: l)
    | _, _ => none
  | _ => none
theorem yL : ∀ {l : List CV} {zs : List (Int × Int)}, outsT l = some zs → l = outV zs
  | [], zs, h => by
    simp only [outsT, Option.some.injEq] at h
    rw [← h]; rfl
  | [x], zs, h => by simp [outsT] at h
  | x :: s :: r, zs, h => by
    unfold outsT at h
    split at h
    · rename_i heq; simp at heq
    · rename_i v s' r' heq
      simp only [List.cons.injEq] at heq
      obtain ⟨rfl, rfl, rfl⟩ := heq
      split at h
      · rename_i y l hs hl
        obtain rfl := Option.some.inj h
        rw [scrT_ok hs, yL hl]; rfl
      · simp at h
    · simp at h
def inT (l : List CV) : Option (List Int × Int × Int) := match numsT .u8 (l.take 32), l.drop 32 with
  | some os, [.int true .u32 i, .int true .u32 q, .fz [.fz [.int true .u8 w] 0 1] 0 1] => match Nat.beq os.length 32 with
    | true => some (os ++ [i], q, w)
    | false => none
  | _, _ => none
theorem keyV_eq {os : List Int} {i : Int} (h : os.length = 32) : keyV (os ++ [i]) = os.map (CV.int true .u8) ++ [.int true .u32 i] := by
  unfold keyV
  congr 1
  · apply List.ext_getElem?
    intro j
    rw [List.getElem?_map, List.getElem?_map]
    by_cases hj : j < 32
    · rw [List.getElem?_range hj, List.getElem?_eq_getElem (by omega : j < os.length)]
      simp only [Option.map_some]
      rw [List.getD_eq_getElem?_getD, List.getElem?_append_left (by omega), List.getElem?_eq_getElem (by omega : j < os.length)]
      rfl
    · rw [List.getElem?_eq_none (by simp; omega), List.getElem?_eq_none (by omega)]; rfl
  · rw [List.getD_eq_getElem?_getD, List.getElem?_append_right (by omega), h]; rfl
theorem inT_ok {l : List CV} {o : List Int} {q w : Int} (h : inT l = some (o, q, w)) : l = inV o q w := by
  unfold inT at h
  split at h
  · rename_i os i q' w' h1 h2
    split at h
    · rename_i hl
      simp only [Option.some.injEq, Prod.mk.injEq] at h
      obtain ⟨rfl, rfl, rfl⟩ := h
      unfold inV
      rw [keyV_eq (Nat.eq_of_beq_eq_true hl), ← List.take_append_drop 32 l, numsT_ok h1, h2]
      simp
    · simp at h
  · simp at h
def isNs (k : IntKind) (n : Nat) (m : Nat) : List CV → Bool
  | [] => Nat.beq m 0
  | x :: r => match m with
    | 0 => false
    | m + 1 => match isN false k n x with
      | true => isNs k n m r
      | false => false
theorem isNs_ok {k : IntKind} {n : Nat} : ∀ {m : Nat} {l : List CV}, isNs k n m l = true → l = List.replicate m (.int false k (.ofNat n))
  | m, [], h => by
    unfold isNs at h
    rw [Nat.eq_of_beq_eq_true h]; rfl
  | 0, x :: r, h => by simp [isNs] at h
  | m + 1, x :: r, h => by
    simp only [isNs] at h
    split at h
    · rename_i hx
      rw [nN hx, isNs_ok h]; rfl
    · simp at h
def cbT (l : List CV) : Option Int := match isNs .u8 0 32 (l.take 32), l.drop 32 with
  | true, [i, .int true .u32 q, .nils] => match isN false .u32 4294967295 i with
    | true => some q
    | false => none
  | _, _ => none
theorem cbT_ok {l : List CV} {q : Int} (h : cbT l = some q) : l = nullV ++ [.int true .u32 q, .nils] := by
  unfold cbT at h
  split at h
  · rename_i i q' h1 h2
    split at h
    · rename_i hi
      obtain rfl := Option.some.inj h
      rw [← List.take_append_drop 32 l, isNs_ok h1, h2, nN hi]
      rfl
    · simp at h
  · simp at h
def txT (x : CV) : Option iD := match x with
  | .agg [a, .fz ins 0 1, .fz outs 0 n, b] => match isN false .u32 1 a && isN false .u32 0 b, outsT outs with
    | true, some [(v, x)] => match Nat.beq n 1 with
      | true => match inT ins with
        | some (o, q, w) => some (.sp1 o q w v x)
        | none => match cbT ins with
          | some q => some (.cb q v x)
          | none => none
      | false => none
    | true, some [(v, x), (v', x')] => match Nat.beq n 2 with
      | true => match inT ins with
        | some (o, q, w) => some (.sp2 o q w v x v' x')
        | none => none
      | false => none
    | _, _ => none
  | _ => none
theorem txT_ok {x : CV} {t : iD} (h : txT x = some t) : x = .agg (txC t) := by
  unfold txT at h
  split at h
  · split at h
    · rename_i v x hab ho
      rw [Bool.and_eq_true] at hab
      split at h
      · rename_i hn
        obtain rfl := Nat.eq_of_beq_eq_true hn
        split at h
        · rename_i hi
          obtain rfl := Option.some.inj h
          rw [nN hab.1, nN hab.2, yL ho, inT_ok hi]; rfl
        · split at h
          · rename_i hi
            obtain rfl := Option.some.inj h
            rw [nN hab.1, nN hab.2, yL ho, cbT_ok hi]; rfl
          · simp at h
      · simp at h
    · rename_i v x v' x' hab ho
      rw [Bool.and_eq_true] at hab
      split at h
      · rename_i hn
        obtain rfl := Nat.eq_of_beq_eq_true hn
        split at h
        · rename_i hi
          obtain rfl := Option.some.inj h
          rw [nN hab.1, nN hab.2, yL ho, inT_ok hi]; rfl
        · simp at h
      · simp at h
    · simp at h
  · simp at h
noncomputable def aV : Acc := aH.get
noncomputable def resZ (s : List CV → Acc → R CV) (l : List CV) : CV := match jn (s l aV) with
  | some (_, z) => z
  | none => .nils
def aS : CV → Int
  | .int _ _ z => z
  | _ => 77
def yS : CV → Bool
  | .bool _ b => b
  | _ => false
inductive Sk where
  | i (k : IntKind)
  | b
  | agg (l : List Sk)
  | tup (l : List Sk)
def vJ (i : Nat) : CV → CV
  | .agg l => l.getD i .nils
  | .tup l => l.getD i .nils
  | _ => .nils
mutual
def mkS : Sk → CV → CV
  | .i k, c => .int true k (aS c)
  | .b, c => .bool true (yS c)
  | .agg l, c => .agg (mkL l c 0)
  | .tup l, c => .tup (mkL l c 0)
def mkL : List Sk → CV → Nat → List CV
  | [], _, _ => []
  | s :: r, c, i => mkS s (vJ i c) :: mkL r c (i + 1)
end
mutual
def skS : Sk → CV → Bool
  | .i k, .int s k' z => match Nat.beq (oQ k) (oQ k') with
    | true => wX s k z
    | false => false
  | .b, .bool _ _ => true
  | .agg l, .agg m => skL l m
  | .tup l, .tup m => skL l m
  | _, _ => false
def skL : List Sk → List CV → Bool
  | [], [] => true
  | s :: r, c :: m => match skS s c with
    | true => skL r m
    | false => false
  | _, _ => false
end
mutual
theorem mkS_rv {β : Names} : ∀ {s : Sk} {c : CV} {u : Value}, skS s c = true → RV β c u → RV β (mkS s c) u
  | .i k, c, u, h, hu => by
    cases c with
    | int s k' z =>
      simp only [skS] at h
      split at h
      · rename_i hk
        obtain rfl := eQ hk
        exact ⟨hu.1, fun _ => gJ h hu.2⟩
      · simp at h
    | _ => simp [skS] at h
  | .b, c, u, h, hu => by
    cases c with
    | bool s b => exact hu
    | _ => simp [skS] at h
  | .agg l, c, u, h, hu => by
    cases c with
    | agg m =>
      obtain ⟨us, e, hu⟩ := hu
      simp only [skS] at h
      exact ⟨us, e, mkL_rv (root := .agg m) (i := 0) (fun j => by show m.getD j .nils = m.getD (0 + j) .nils; rw [Nat.zero_add]) h hu⟩
    | _ => simp [skS] at h
  | .tup l, c, u, h, hu => by
    cases c with
    | tup m =>
      obtain ⟨us, e, hu⟩ := hu
      simp only [skS] at h
      exact ⟨us, e, mkL_rv (root := .tup m) (i := 0) (fun j => by show m.getD j .nils = m.getD (0 + j) .nils; rw [Nat.zero_add]) h hu⟩
    | _ => simp [skS] at h
theorem mkL_rv {β : Names} : ∀ {l : List Sk} {m : List CV} {us : List Value} {root : CV} {i : Nat}, (∀ j, m.getD j .nils = vJ (i + j) root) → skL l m = true → bJ β m us → bJ β (mkL l root i) us
  | [], m, us, root, i, _, h, hu => by
    cases m with
    | nil => exact hu
    | cons c m => simp [skL] at h
  | s :: r, m, us, root, i, hr, h, hu => by
    cases m with
    | nil => simp [skL] at h
    | cons c m =>
      obtain ⟨u, us', e, h1, h2⟩ := hu
      simp only [skL] at h
      split at h
      · rename_i hc
        have h0 : vJ i root = c := (hr 0).symm
        refine ⟨u, us', e, ?_, mkL_rv (fun j => by
          have := hr (j + 1)
          rw [show i + 1 + j = i + (j + 1) by omega]
          exact this) h h2⟩
        rw [h0]
        exact mkS_rv hc h1
      · simp at h
end
noncomputable def meet (s : Sk) (o : Option (Cn × CV)) : Bool := match o with
  | some (none, z) => skS s z
  | _ => false
theorem purR_V {P : Program} {CT : bQ} {L d : Nat} {f : FuncId} {l : List CV} {V : Acc} (h : pJ V = true) : purR P CT L d f l V = purR P CT L d f l aV := by
  have h2 : pJ aV = true := by kernel_rfl
  unfold purR hpT
  rw [h, h2]
noncomputable def nmS (s : List CV → Acc → R CV) (ck : List CV → Bool) (sk : Sk) (l : List CV) (V : Acc) : R CV := match ck l with
  | true => match pJ V with
    | true => .ok (mkS sk (resZ s l))
    | false => .no
  | false => jnS s l V
theorem pI {P : Program} {CT : bQ} {L d : Nat} {f : FuncId} (hs : bM P f (purR P CT L d f)) {ck : List CV → Bool} {sk : Sk} (hm : ∀ l, ck l = true → meet sk (jn (purR P CT L d f l aV)) = true) : bM P f (nmS (purR P CT L d f) ck sk) := by
  intro l V v h β args w nx hG hR hV
  unfold nmS at h
  split at h
  · rename_i hck
    split at h
    · rename_i htab
      obtain rfl := Option.some.inj h
      have hm := hm l hck
      cases hj : jn (purR P CT L d f l aV) with
      | none => rw [hj] at hm; simp [meet] at hm
      | some p =>
        obtain ⟨c, z⟩ := p
        rw [hj] at hm
        unfold meet at hm
        split at hm
        · rename_i z' heq
          simp only [Option.some.injEq, Prod.mk.injEq] at heq
          obtain ⟨rfl, rfl⟩ := heq
          obtain ⟨x, k1, k2⟩ := jn_ok hj rfl
          refine fB (hs _ V x (by rw [purR_V htab]; exact k1) β args w nx hG hR hV) (fun u w' ⟨β', q1, q2, q3⟩ => ⟨β', q1, ?_, q3⟩)
          have e : resZ (purR P CT L d f) l = z := by unfold resZ; rw [hj]
          rw [e]
          exact mkS_rv hm (k2 β' u q2)
        · simp at hm
    · simp [R.val] at h
  · exact jnS_ok hs l V v h β args w nx hG hR hV
def wP (l : List CV) : Bool := match l with
  | [x] => (txT x).isSome
  | _ => false
theorem ckTx_ok {l : List CV} (h : wP l = true) : ∃ t, l = [.agg (txC t)] := by
  unfold wP at h
  split at h
  · obtain ⟨t, ht⟩ := Option.isSome_iff_exists.1 h
    exact ⟨t, by rw [txT_ok ht]⟩
  · simp at h
def hsK : Sk := .agg (List.replicate 32 (.i .u8))
def unk (k : IntKind) (n : Nat) (l : List CV) : Option (List Int) := match numsT k l with
  | some zs => match Nat.beq zs.length n with
    | true => some zs
    | false => none
  | none => none
theorem unk_ok {k : IntKind} {n : Nat} {l : List CV} {zs : List Int} (h : unk k n l = some zs) : l = zs.map (CV.int true k) ∧ zs.length = n := by
  unfold unk at h
  split at h
  · rename_i hz
    split at h
    · rename_i hl
      obtain rfl := Option.some.inj h
      exact ⟨numsT_ok hz, Nat.eq_of_beq_eq_true hl⟩
    · simp at h
  · simp at h
theorem row_n (k : IntKind) {n : Nat} {zs : List Int} (h : zs.length = n) : zs.map (CV.int true k) = (List.range n).map fun j => CV.int true k (zs.getD j 0) := by
  subst h
  apply List.ext_getElem?
  intro j
  rw [List.getElem?_map, List.getElem?_map]
  by_cases hj : j < zs.length
  · rw [List.getElem?_range hj, List.getElem?_eq_getElem hj]
    simp only [Option.map_some]
    rw [List.getD_eq_getElem?_getD, List.getElem?_eq_getElem hj]; rfl
  · rw [List.getElem?_eq_none (by omega), List.getElem?_eq_none (by simp; omega)]; rfl
set_option maxRecDepth 20000
def un4 : List CV → Option Nat
  | [.int s0 .u64 a, .int s1 .u64 b, .int s2 .u64 c, .int s3 .u64 d] => match (wX s0 .u64 a && wX s1 .u64 b) && (wX s2 .u64 c && wX s3 .u64 d) with
    | true => some (((d.toNat * 18446744073709551616 + c.toNat) * 18446744073709551616 + b.toNat) * 18446744073709551616 + a.toNat)
    | false => none
  | _ => none
def uT (A : Nat) : CV := .agg [.int true .u64 (wd A 0), .int true .u64 (wd A 1), .int true .u64 (wd A 2), .int true .u64 (wd A 3)]
theorem u64_nat {z : Int} (h : IntKind.u64.wrap z = z) : z = (z.toNat : Int) ∧ z.toNat < 18446744073709551616 := by
  rw [lS] at h
  simp [IntKind.signed, IntKind.bits] at h
  omega
theorem wd_rg (A i : Nat) : IntKind.u64.wrap (wd A i) = wd A i := by
  unfold wd
  rw [lS]
  simp [IntKind.signed, IntKind.bits]
  omega
theorem uT_rv {β : Names} (A : Nat) : RV β (uT A) (U A) :=
  ⟨_, rfl, _, _, rfl, ⟨rfl, fun _ => wd_rg _ _⟩, _, _, rfl, ⟨rfl, fun _ => wd_rg _ _⟩, _, _, rfl, ⟨rfl, fun _ => wd_rg _ _⟩, _, _, rfl, ⟨rfl, fun _ => wd_rg _ _⟩, rfl⟩
theorem nD {β : Names} {x : List CV} {A : Nat} {u : Value} (h : un4 x = some A) (hu : RV β (.agg x) u) : A < M ∧ u = U A := by
  unfold un4 at h
  split at h
  · rename_i s0 a s1 b s2 c s3 d
    split at h
    · rename_i hr
      obtain rfl := Option.some.inj h
      simp only [Bool.and_eq_true] at hr
      obtain ⟨us, rfl, hus⟩ := hu
      obtain ⟨u1, r1, e1, q1, u2, r2, e2, q2, u3, r3, e3, q3, u4, r4, e4, q4, e5⟩ := hus
      have e5 : r4 = [] := e5
      obtain ⟨h1, l1⟩ := u64_nat (gJ hr.1.1 q1.2)
      obtain ⟨h2, l2⟩ := u64_nat (gJ hr.1.2 q2.2)
      obtain ⟨h3, l3⟩ := u64_nat (gJ hr.2.1 q3.2)
      obtain ⟨h4, l4⟩ := u64_nat (gJ hr.2.2 q4.2)
      have q1 := q1.1
      have q2 := q2.1
      have q3 := q3.1
      have q4 := q4.1
      subst e5 e4 e3 e2 q1 q2 q3 q4
      rw [h1, h2, h3, h4] at e1
      generalize a.toNat = a at *
      generalize b.toNat = b at *
      generalize c.toNat = c at *
      generalize d.toNat = d at *
      refine ⟨by rw [lW]; omega, ?_⟩
      have e1 : us = #[Value.int .u64 (a : Int), .int .u64 (b : Int), .int .u64 (c : Int), .int .u64 (d : Int)] := Array.toList_inj.1 e1
      unfold U
      rw [e1, wd0, wd1, wd2, wd3]
      have f1 : (((d * 18446744073709551616 + c) * 18446744073709551616 + b) * 18446744073709551616 + a) % 18446744073709551616 = a := by omega
      have f2 : (((d * 18446744073709551616 + c) * 18446744073709551616 + b) * 18446744073709551616 + a) / 18446744073709551616 % 18446744073709551616 = b := by omega
      have f3 : (((d * 18446744073709551616 + c) * 18446744073709551616 + b) * 18446744073709551616 + a) / 340282366920938463463374607431768211456 % 18446744073709551616 = c := by omega
      have f4 : (((d * 18446744073709551616 + c) * 18446744073709551616 + b) * 18446744073709551616 + a) / 6277101735386680763835789423207666416102355444464034512896 % 18446744073709551616 = d := by omega
      rw [f1, f2, f3, f4]
    · simp at h
  · simp at h
def orS (k : List CV → Acc → Option CV) (s : List CV → R CV) (l : List CV) (V : Acc) : R CV := match k l V with
  | some v => .ok v
  | none => s l
def sShl (l : List CV) : R CV := match l with
  | [.agg x, .int _ .i64 n] => match un4 x with
    | some A => .ok (uT (shlZ A n))
    | none => .no
  | _ => .no
def big (s : Bool) (n : Int) : Bool := match s, n with
  | false, .ofNat m => Nat.ble 256 m
  | _, _ => false
def sShr (l : List CV) : R CV := match l with
  | [.agg x, .int s .i64 n] => match un4 x with
    | some A => match big s n with
      | true => .ok (kU 0)
      | false => .ok (uT (shrZ A n))
    | none => .no
  | _ => .no
def sLen (l : List CV) : R CV := match l with
  | [.agg x] => match un4 x with
    | some A => .ok (.int true .i64 (wG A))
    | none => .no
  | _ => .no
def sDiv (l : List CV) : R CV := match l with
  | [.agg x, .agg y, .agg z] => match un4 x, un4 y, un4 z with
    | some hi, some lo, some b => .ok (.tup [uT (divQ hi lo b), uT (divR hi lo b), .bool true (decide (hi < b))])
    | _, _, _ => .no
  | _ => .no
def sMul (l : List CV) (_ : Acc) : R CV := match l with
  | [.agg x, .agg y] => match un4 x, un4 y with
    | some a, some b => .ok (.tup [uT (a * b / M), uT (a * b % M)])
    | _, _ => .no
  | _ => .no
def sAdd (l : List CV) (_ : Acc) : R CV := match l with
  | [.agg x, .agg y] => match un4 x, un4 y with
    | some a, some b => .ok (.tup [uT ((a + b) % M), .bool true (decide (M ≤ a + b))])
    | _, _ => .no
  | _ => .no
def sSub (l : List CV) (_ : Acc) : R CV := match l with
  | [.agg x, .agg y] => match un4 x, un4 y with
    | some a, some b => .ok (.tup [uT ((a + M - b) % M), .bool true (decide (a < b))])
    | _, _ => .no
  | _ => .no
theorem lenN_rg {A : Nat} (h : A < M) : IntKind.i64.wrap (wG A : Int) = (wG A : Int) := by
  have : wG A ≤ 256 := by
    unfold wG
    split
    · omega
    · rename_i h0
      have := (Nat.log2_lt h0).2 (show A < 2 ^ 256 by rw [lW] at h; exact h)
      omega
  rw [lS]
  simp [IntKind.signed, IntKind.bits]
  omega
theorem args2 {β : Names} {a b : CV} {args : Array Value} (hR : bJ β [a, b] args.toList) : ∃ u v, args = #[u, v] ∧ RV β a u ∧ RV β b v := kBs_args (l := [a, b]) hR
theorem args3 {β : Names} {a b c : CV} {args : Array Value} (hR : bJ β [a, b, c] args.toList) : ∃ u v w, args = #[u, v, w] ∧ RV β a u ∧ RV β b v ∧ RV β c w := by
  obtain ⟨u, r, e1, h1, v, r2, e2, h2, w, r3, e3, h3, e4⟩ := hR
  have e4 : r3 = [] := e4
  subst e4 e3 e2
  exact ⟨u, v, w, Array.toList_inj.1 e1, h1, h2, h3⟩
theorem args1 {β : Names} {a : CV} {args : Array Value} (hR : bJ β [a] args.toList) : ∃ u, args = #[u] ∧ RV β a u := by
  obtain ⟨u, r, e1, h1, e2⟩ := hR
  have e2 : r = [] := e2
  subst e2
  exact ⟨u, Array.toList_inj.1 e1, h1⟩
theorem shl_pur : bM Tryz.prog 210 (orS kShl sShl) := wE (fun l V v h β args w hG hR hV => by
  unfold orS at h
  split at h
  · rename_i v' hv
    obtain rfl := Option.some.inj h
    obtain ⟨A, n, hA, rfl, hr⟩ := kShl_ok hv hR
    exact lD Tryz.func210 rfl (by kernel_rfl) (rshl_any A n w hA) hr
  · unfold sShl at h
    split at h
    · split at h
      · rename_i A hA
        obtain rfl := Option.some.inj h
        obtain ⟨u, v, rfl, h1, h2⟩ := args2 hR
        obtain ⟨k1, rfl⟩ := nD hA h1
        obtain ⟨rfl, _⟩ := h2
        exact lD Tryz.func210 rfl (by kernel_rfl) (rshl_any A _ w k1) (uT_rv _)
      · simp [R.val] at h
    · simp [R.val] at h)
theorem shr_pur : bM Tryz.prog 95 (orS kShr sShr) := wE (fun l V v h β args w hG hR hV => by
  unfold orS at h
  split at h
  · rename_i v' hv
    obtain rfl := Option.some.inj h
    obtain ⟨A, n, hA, rfl, hr⟩ := kShr_ok hv hR
    exact lD Tryz.func95 rfl (by kernel_rfl) (yR A n w hA) hr
  · unfold sShr at h
    split at h
    · split at h
      · rename_i s n _ A hA
        obtain ⟨u, v, rfl, h1, h2⟩ := args2 hR
        obtain ⟨k1, rfl⟩ := nD hA h1
        obtain ⟨rfl, _⟩ := h2
        split at h
        · rename_i hb
          obtain rfl := Option.some.inj h
          unfold big at hb
          split at hb
          · rename_i m _
            have hm := dK hb
            refine lD Tryz.func95 rfl (by kernel_rfl) (yR A _ w k1) ?_
            have : shrZ A (Int.ofNat m) = 0 := by
              unfold shrZ
              rw [if_neg (by simp)]
              exact Nat.div_eq_of_lt (Nat.lt_of_lt_of_le (by rw [lW] at k1; exact k1 : A < 2 ^ 256) (Nat.pow_le_pow_right (by decide) hm))
            rw [this]
            exact kU_rv 0
          · simp at hb
        · obtain rfl := Option.some.inj h
          exact lD Tryz.func95 rfl (by kernel_rfl) (yR A _ w k1) (uT_rv _)
      · simp [R.val] at h
    · simp [R.val] at h)
theorem len_pur : bM Tryz.prog 209 (orS kLen sLen) := wE (fun l V v h β args w hG hR hV => by
  unfold orS at h
  split at h
  · rename_i v' hv
    obtain rfl := Option.some.inj h
    obtain ⟨A, hA, rfl, hr⟩ := kLen_ok hv hR
    exact lD Tryz.func209 rfl (by kernel_rfl) (rlen_any A w hA) hr
  · unfold sLen at h
    split at h
    · split at h
      · rename_i A hA
        obtain rfl := Option.some.inj h
        obtain ⟨u, rfl, h1⟩ := args1 hR
        obtain ⟨k1, rfl⟩ := nD hA h1
        exact lD Tryz.func209 rfl (by kernel_rfl) (rlen_any A w k1) ⟨rfl, fun _ => lenN_rg k1⟩
      · simp [R.val] at h
    · simp [R.val] at h)
theorem div_pur : bM Tryz.prog 207 (orS kDiv sDiv) := wE (fun l V v h β args w hG hR hV => by
  unfold orS at h
  split at h
  · rename_i v' hv
    obtain rfl := Option.some.inj h
    obtain ⟨hi, lo, b, h1, h2, h3, rfl, hr⟩ := kDiv_ok hv hR
    exact lD Tryz.func207 rfl (by kernel_rfl) (rdiv_any hi lo b w h1 h2 h3) hr
  · unfold sDiv at h
    split at h
    · split at h
      · rename_i hi lo b q1 q2 q3
        obtain rfl := Option.some.inj h
        obtain ⟨u, v, x, rfl, h1, h2, h3⟩ := args3 hR
        obtain ⟨k1, rfl⟩ := nD q1 h1
        obtain ⟨k2, rfl⟩ := nD q2 h2
        obtain ⟨k3, rfl⟩ := nD q3 h3
        exact lD Tryz.func207 rfl (by kernel_rfl) (rdiv_any hi lo b w k1 k2 k3) ⟨_, rfl, _, _, rfl, uT_rv _, _, _, rfl, uT_rv _, _, _, rfl, rfl, rfl⟩
      · simp [R.val] at h
    · simp [R.val] at h)
theorem mul_pur : bM Tryz.prog 205 sMul := wE (fun l V v h β args w hG hR hV => by
  unfold sMul at h
  split at h
  · split at h
    · rename_i a b q1 q2
      obtain rfl := Option.some.inj h
      obtain ⟨u, v, rfl, h1, h2⟩ := args2 hR
      obtain ⟨k1, rfl⟩ := nD q1 h1
      obtain ⟨k2, rfl⟩ := nD q2 h2
      exact lD Tryz.func205 rfl (by kernel_rfl) (rmul_any a b w k1 k2) ⟨_, rfl, _, _, rfl, uT_rv _, _, _, rfl, uT_rv _, rfl⟩
    · simp [R.val] at h
  · simp [R.val] at h)
theorem add_pur : bM Tryz.prog 255 sAdd := wE (fun l V v h β args w hG hR hV => by
  unfold sAdd at h
  split at h
  · split at h
    · rename_i a b q1 q2
      obtain rfl := Option.some.inj h
      obtain ⟨u, v, rfl, h1, h2⟩ := args2 hR
      obtain ⟨k1, rfl⟩ := nD q1 h1
      obtain ⟨k2, rfl⟩ := nD q2 h2
      exact lD Tryz.func255 rfl (by kernel_rfl) (radd_any a b w k1 k2) ⟨_, rfl, _, _, rfl, uT_rv _, _, _, rfl, rfl, rfl⟩
    · simp [R.val] at h
  · simp [R.val] at h)
theorem sub_pur : bM Tryz.prog 256 sSub := wE (fun l V v h β args w hG hR hV => by
  unfold sSub at h
  split at h
  · split at h
    · rename_i a b q1 q2
      obtain rfl := Option.some.inj h
      obtain ⟨u, v, rfl, h1, h2⟩ := args2 hR
      obtain ⟨k1, rfl⟩ := nD q1 h1
      obtain ⟨k2, rfl⟩ := nD q2 h2
      exact lD Tryz.func256 rfl (by kernel_rfl) (rsub_any a b w k1 k2) ⟨_, rfl, _, _, rfl, uT_rv _, _, _, rfl, rfl, rfl⟩
    · simp [R.val] at h
  · simp [R.val] at h)
set_option maxRecDepth 20000
noncomputable def bCT : bQ := fun f => match Nat.beq f 251 with
  | true => none
  | false => match Nat.beq f 161 with
    | true => none
    | false => aCT f
theorem bCT_ok : gV Tryz.prog bCT := by
  intro f s hs
  unfold bCT at hs
  split at hs
  · simp at hs
  · split at hs
    · simp at hs
    · exact aCT_ok f s hs
noncomputable def cT0 : bQ := bT (bT (bT (bT (bT (bT (bT bCT 210 (orS kShl sShl)) 95 (orS kShr sShr)) 209 (orS kLen sLen)) 207 (orS kDiv sDiv)) 205 sMul) 255 sAdd) 256 sSub
theorem cT0_ok : gV Tryz.prog cT0 := aG (aG (aG (aG (aG (aG (aG bCT_ok shl_pur) shr_pur) len_pur) div_pur) mul_pur) add_pur) sub_pur
noncomputable abbrev pr (CT : bQ) (f : FuncId) : List CV → Acc → R CV := purR Tryz.prog CT 20000 60 f
theorem nY {CT : bQ} (hT : gV Tryz.prog CT) {f : FuncId} (h : CT f = none) : bM Tryz.prog f (pr CT f) := purR_ok hT mixed noNG h
theorem wI {l : List CV} (h : wP l = true) {Q : List CV → Prop} (h1 : ∀ q v x, Q [.agg (txC (.cb q v x))]) (h2 : ∀ o q w v x, Q [.agg (txC (.sp1 o q w v x))]) (h3 : ∀ o q w v x v' x', Q [.agg (txC (.sp2 o q w v x v' x'))]) : Q l := by
  obtain ⟨t, rfl⟩ := ckTx_ok h
  cases t with
  | cb q v x => exact h1 q v x
  | sp1 o q w v x => exact h2 o q w v x
  | sp2 o q w v x v' x' => exact h3 o q w v x v' x'
theorem fits_pur : bM Tryz.prog 189 (nmS (pr cT0 189) wP .b) := pI (nY cT0_ok (by kernel_rfl)) (fun l h => wI (Q := fun l => meet .b (jn (pr cT0 189 l aV)) = true) h (fun q v x => by kernel_rfl) (fun o q w v x => by kernel_rfl) (fun o q w v x v' x' => by kernel_rfl))
theorem id_pur : bM Tryz.prog 134 (nmS (pr cT0 134) wP hsK) := pI (nY cT0_ok (by kernel_rfl)) (fun l h => wI (Q := fun l => meet hsK (jn (pr cT0 134 l aV)) = true) h (fun q v x => by kernel_rfl) (fun o q w v x => by kernel_rfl) (fun o q w v x v' x' => by kernel_rfl))
theorem full_pur : bM Tryz.prog 136 (nmS (pr cT0 136) wP hsK) := pI (nY cT0_ok (by kernel_rfl)) (fun l h => wI (Q := fun l => meet hsK (jn (pr cT0 136 l aV)) = true) h (fun q v x => by kernel_rfl) (fun o q w v x => by kernel_rfl) (fun o q w v x v' x' => by kernel_rfl))
theorem chk_pur : bM Tryz.prog 194 (nmS (pr cT0 194) wP (.i .i64)) := pI (nY cT0_ok (by kernel_rfl)) (fun l h => wI (Q := fun l => meet (.i .i64) (jn (pr cT0 194 l aV)) = true) h (fun q v x => by kernel_rfl) (fun o q w v x => by kernel_rfl) (fun o q w v x v' x' => by kernel_rfl))
noncomputable def cT1 : bQ := bT (bT (bT (bT cT0 189 (nmS (pr cT0 189) wP .b)) 134 (nmS (pr cT0 134) wP hsK)) 136 (nmS (pr cT0 136) wP hsK)) 194 (nmS (pr cT0 194) wP (.i .i64))
theorem cT1_ok : gV Tryz.prog cT1 := aG (aG (aG (aG cT0_ok fits_pur) id_pur) full_pur) chk_pur
noncomputable abbrev jpx (CT : bQ) (f : FuncId) : List CV → Acc → R CV := jnS (pr CT f)
theorem nM {CT : bQ} (hT : gV Tryz.prog CT) {f : FuncId} (h : CT f = none) : bM Tryz.prog f (jpx CT f) := jnS_ok (nY hT h)
noncomputable def cT2 : bQ := bT (bT cT1 150 (jpx cT1 150)) 192 (jpx cT1 192)
theorem cT2_ok : gV Tryz.prog cT2 := aG (aG cT1_ok (nM cT1_ok (by kernel_rfl))) (nM cT1_ok (by kernel_rfl))
def ckB (l : List CV) : Bool := match l with
  | [.int true .u32 _] => true
  | _ => false
def ckU (l : List CV) : Bool := match l with
  | [.agg x] => (unk .u64 4 x).isSome
  | _ => false
def ckM (l : List CV) : Bool := match l with
  | [.agg x, .int true .u32 _] => (unk .u8 32 x).isSome
  | _ => false
def exK : Sk := .tup [.agg [.i .u64, .i .u64, .i .u64, .i .u64], .i .i64]
theorem exp_pur : bM Tryz.prog 149 (nmS (pr cT2 149) ckB exK) := pI (nY cT2_ok (by kernel_rfl)) (fun l h => by
  unfold ckB at h
  split at h
  · kernel_rfl
  · simp at h)
theorem cpt_pur : bM Tryz.prog 208 (nmS (pr cT2 208) ckU (.i .u32)) := pI (nY cT2_ok (by kernel_rfl)) (fun l h => by
  unfold ckU at h
  split at h
  · obtain ⟨zs, hz⟩ := Option.isSome_iff_exists.1 h
    obtain ⟨rfl, hl⟩ := unk_ok hz
    rw [row_n .u64 hl]
    kernel_rfl
  · simp at h)
noncomputable def cT3 : bQ := bT (bT cT2 149 (nmS (pr cT2 149) ckB exK)) 208 (nmS (pr cT2 208) ckU (.i .u32))
theorem cT3_ok : gV Tryz.prog cT3 := aG (aG cT2_ok exp_pur) cpt_pur
theorem mts_pur : bM Tryz.prog 92 (nmS (pr cT3 92) ckM .b) := pI (nY cT3_ok (by kernel_rfl)) (fun l h => by
  unfold ckM at h
  split at h
  · obtain ⟨zs, hz⟩ := Option.isSome_iff_exists.1 h
    obtain ⟨rfl, hl⟩ := unk_ok hz
    rw [row_n .u8 hl]
    kernel_rfl
  · simp at h)
noncomputable def cT4 : bQ := bT (bT cT3 92 (nmS (pr cT3 92) ckM .b)) 83 (jpx cT3 83)
theorem cT4_ok : gV Tryz.prog cT4 := aG (aG cT3_ok mts_pur) (nM cT3_ok (by kernel_rfl))
namespace R
variable {α : Type}
def isOk : R α → Bool
  | .ok _ => true
  | _ => false
def lf (d : α) : R α → α
  | .ok a => a
  | _ => d
theorem val_ok {r : R α} (d : α) (h : r.isOk = true) : r.val = some (r.lf d) := by
  cases r with
  | ok a => rfl
  | _ => simp [isOk] at h
def okp : List Bool → R α → Bool
  | [], .ok _ => true
  | d :: ds, .br _ t f => match d with
    | true => okp ds t
    | false => okp ds f
  | _, _ => false
def cds : List Bool → R α → List Bool
  | d :: ds, .br b t f => b :: (match d with
    | true => cds ds t
    | false => cds ds f)
  | _, _ => []
def lfp (a0 : α) : List Bool → R α → α
  | [], .ok a => a
  | d :: ds, .br _ t f => match d with
    | true => lfp a0 ds t
    | false => lfp a0 ds f
  | _, _ => a0
theorem val_p (a0 : α) : ∀ {ds : List Bool} {r : R α}, okp ds r = true → cds ds r = ds → r.val = some (lfp a0 ds r)
  | [], .ok a, _, _ => rfl
  | [], .no, h, _ => by simp [okp] at h
  | [], .br _ _ _, h, _ => by simp [okp] at h
  | _ :: _, .no, h, _ => by simp [okp] at h
  | _ :: _, .ok _, h, _ => by simp [okp] at h
  | d :: ds, .br b t f, h, hc => by
    simp only [cds, List.cons.injEq] at hc
    obtain ⟨rfl, hc⟩ := hc
    cases b with
    | true => exact val_p a0 (ds := ds) (r := t) h hc
    | false => exact val_p a0 (ds := ds) (r := f) h hc
theorem val_pv (a0 : α) {ds : List Bool} {r : R α} {a : α} (h : okp ds r = true) (hc : cds ds r = ds) (he : lfp a0 ds r = a) : r.val = some a := by
  rw [val_p a0 h hc, he]
theorem val_pe {γ : Type} (a0 : γ × α) {ds : List Bool} {r : R (γ × α)} {e : γ} (h : okp ds r = true) (hc : cds ds r = ds) (he : (lfp a0 ds r).1 = e) : r.val = some (e, (lfp a0 ds r).2) := by
  rw [val_p a0 h hc, ← he]
end R
def kA : Code → Code
  | .seq a _ => a
  | _ => .skip
def kC : Code → Code
  | .seq _ b => b
  | _ => .skip
def cIn : Code → Code
  | .block _ c => c
  | .loop c => c
  | _ => .skip
def ccOf : Option CC → CC
  | some c => c
  | none => .nop
def lL (fn : Func) : Code := match fn.body with
  | some c => c
  | none => .skip
def dW : aP := ⟨.e, .e, 0, []⟩
noncomputable def frL : List (Nat × CV) → dV → dV
  | [], fr => fr
  | (t, c) :: r, fr => (frL r fr).set t c
noncomputable def hpL : List (Nat × HO) → Tr HO
  | [] => .e
  | (t, c) :: r => (hpL r).set t c
theorem frL_get {t : Nat} {c : CV} : ∀ {l : List (Nat × CV)}, (frL l .e).get t = some c → (t, c) ∈ l
  | [], h => by
    have h' : (Tr.e : dV).get t = some c := h
    rw [Tr.get_e] at h'; simp at h'
  | (t', c') :: r, h => by
    have h' : ((frL r .e).set t' c').get t = some c := h
    rw [Tr.get_set] at h'
    by_cases e : t' = t
    · rw [if_pos e] at h'
      rw [← Option.some.inj h', e]; exact List.mem_cons_self
    · rw [if_neg e] at h'
      exact List.mem_cons_of_mem _ (frL_get h')
theorem xR {t : Nat} {c : HO} : ∀ {l : List (Nat × HO)}, (hpL l).get t = some c → (t, c) ∈ l
  | [], h => by
    have h' : (Tr.e : Tr HO).get t = some c := h
    rw [Tr.get_e] at h'; simp at h'
  | (t', c') :: r, h => by
    have h' : ((hpL r).set t' c').get t = some c := h
    rw [Tr.get_set] at h'
    by_cases e : t' = t
    · rw [if_pos e] at h'
      rw [← Option.some.inj h', e]; exact List.mem_cons_self
    · rw [if_neg e] at h'
      exact List.mem_cons_of_mem _ (xR h')
theorem iW {i : Nat} (h : i ≤ 140737488355328) : IntKind.i64.wrap (Int.ofNat i) = Int.ofNat i := by
  rw [lS]; simp [IntKind.signed, IntKind.bits]; omega
theorem pU.clo {m : Nat} {ρ : Nat → Nat} {c : CV} (h : clo 9 c = true) : pU m ρ c c := fun _ _ u hr hu => RV.sxs hr.sx 9 c u h hu
theorem pU.wk {m : Nat} {ρ : Nat → Nat} {b : Bool} {k : IntKind} {z : Int} (h : k.wrap z = z) : pU m ρ (.int b k z) (.int true k z) := fun _ _ _ _ hu => ⟨hu.1, fun _ => h⟩
theorem pU.pt {m g g' : Nat} {ρ : Nat → Nat} (h : g < m) (o : Nat) (hg : ρ g = g') : pU m ρ (.ptr g' o) (.ptr g o) := by
  rintro β β2 u hr ⟨a, h1, h2⟩
  exact ⟨a, (hr.ad g h).1.trans (by rw [hg]; exact h1), h2⟩
theorem pU.row {m g g' : Nat} {ρ : Nat → Nat} (h : g < m) (o n c : Nat) (ex : Bool) (hg : ρ g = g') : pU m ρ (.xs g' o n c ex) (.xs g o n c ex) := by
  rintro β β2 u hr ⟨a, c', off, h1, h2, h3, h4, h5, h6, h7⟩
  have := hr.ad g h
  rw [hg] at this
  exact ⟨a, c', off, this.1.trans h1, h2, h3, h4, h5, by rw [this.2]; exact h6, h7⟩
theorem LeO.rows {m : Nat} {ρ : Nat → Nat} (cs : List aJ) : LeO m ρ (.rw cs) (.rw cs) := by
  rintro β β2 ob hr ⟨us, e, lo, hi, h1, h2, h3, h4⟩
  refine ⟨us, e, lo, hi, h1, h2, h3, fun i c hc => ?_⟩
  obtain ⟨k1, s, k2, k3⟩ := h4 i c hc
  exact ⟨k1, s, k2.sxs hr.sx, k3⟩
theorem LeO.clo {m : Nat} {ρ : Nat → Nat} {cs : List CV} {e : TypeId} {r : Bool} (hc : allC (clo 9) cs = true) : LeO m ρ (.cells cs e r) (.cells cs e r) := by
  rintro β β2 ob hr ⟨us, lo, hi, h1, h2, h3, h4, h5⟩
  refine ⟨us, lo, hi, h1, h2, h3, h4, fun i x hx => ?_⟩
  obtain ⟨u, k1, k2⟩ := h5 i x hx
  exact ⟨u, k1, RV.sxs hr.sx 9 x u (sV hc x (List.mem_of_getElem? hx)) k2⟩
def SlOk (m : Nat) (ρ : Nat → Nat) (s : aP) : List (Nat × CV) → Prop
  | [] => True
  | (t, c) :: r => (∃ c', s.fr.get t = some c' ∧ pU m ρ c' c) ∧ SlOk m ρ s r
def HpOk (m : Nat) (ρ : Nat → Nat) (s : aP) : List (Nat × HO) → Prop
  | [] => True
  | (n, o) :: r => (64 ≤ n ∧ n < m ∧ ∃ o', s.H.get (ρ n) = some o' ∧ LeO m ρ o' o) ∧ HpOk m ρ s r
theorem SlOk.mem {m : Nat} {ρ : Nat → Nat} {s : aP} : ∀ {l : List (Nat × CV)}, SlOk m ρ s l → ∀ t c, (t, c) ∈ l → ∃ c', s.fr.get t = some c' ∧ pU m ρ c' c
  | [], _, _, _, h => by simp at h
  | (t', c') :: r, h, t, c, hm => by
    rcases List.mem_cons.1 hm with e | e
    · simp only [Prod.mk.injEq] at e
      obtain ⟨rfl, rfl⟩ := e
      exact h.1
    · exact h.2.mem t c e
theorem HpOk.mem {m : Nat} {ρ : Nat → Nat} {s : aP} : ∀ {l : List (Nat × HO)}, HpOk m ρ s l → ∀ n o, (n, o) ∈ l → 64 ≤ n ∧ n < m ∧ ∃ o', s.H.get (ρ n) = some o' ∧ LeO m ρ o' o
  | [], _, _, _, h => by simp at h
  | (t', c') :: r, h, t, c, hm => by
    rcases List.mem_cons.1 hm with e | e
    · simp only [Prod.mk.injEq] at e
      obtain ⟨rfl, rfl⟩ := e
      exact h.1
    · exact h.2.mem t c e
noncomputable def stF (sl : List (Nat × CV)) (hp : List (Nat × HO)) (m : Nat) : aP := ⟨frL sl .e, hpL hp, m, []⟩
theorem wkG {s : aP} {sl : List (Nat × CV)} {hp : List (Nat × HO)} {m : Nat} {ρ : Nat → Nat} (h1 : SlOk m ρ s sl) (h2 : HpOk m ρ s hp) (hm : 64 ≤ m) (hlo : ∀ n, n < 64 → ρ n = n) (hhi : ∀ n, 64 ≤ n → n < m → 64 ≤ ρ n ∧ ρ n < s.nx) (hinj : ∀ n k, n ∈ hp.map (·.1) → k ∈ hp.map (·.1) → ρ n = ρ k → n = k) (hw : s.wr = []) : Wk 64 [] ρ s (stF sl hp m) := by
  refine ⟨fun t c hc => h1.mem t c (frL_get hc), fun n o ho => ?_, hlo, hhi, fun n k hn hk => hinj n k ?_ ?_, fun p hp => by rw [hw] at hp; simp at hp, hm⟩
  · obtain ⟨_, k2, k3⟩ := h2.mem n o (xR ho)
    exact ⟨k2, k3⟩
  · obtain ⟨o, ho⟩ := Option.ne_none_iff_exists'.1 hn
    exact List.mem_map.2 ⟨(n, o), xR ho, rfl⟩
  · obtain ⟨o, ho⟩ := Option.ne_none_iff_exists'.1 hk
    exact List.mem_map.2 ⟨(k, o), xR ho, rfl⟩
theorem wkI {s : aP} {sl : List (Nat × CV)} {hp : List (Nat × HO)} {m : Nat} (h1 : SlOk m (fun n => n) s sl) (h2 : HpOk m (fun n => n) s hp) (hm : 64 ≤ m) (hx : m ≤ s.nx) (hw : s.wr = []) : Wk 64 [] (fun n => n) s (stF sl hp m) :=
  wkG h1 h2 hm (fun _ _ => rfl) (fun n a b => ⟨a, by omega⟩) (fun _ _ _ _ h => h) hw
theorem puF {sl : List (Nat × CV)} {hp : List (Nat × HO)} {m : Nat} (hm : 64 ≤ m) (h : ∀ n ∈ hp.map (·.1), 64 ≤ n ∧ n < m) : Pu 64 [] .e (stF sl hp m) := by
  have key : ∀ n, (hpL hp).get n ≠ none → 64 ≤ n ∧ n < m := fun n hn => by
    obtain ⟨o, ho⟩ := Option.ne_none_iff_exists'.1 hn
    exact h n (List.mem_map.2 ⟨(n, o), xR ho, rfl⟩)
  have none_ : ∀ n, ¬ (64 ≤ n ∧ n < m) → (hpL hp).get n = none := fun n hn => by
    cases hq : (hpL hp).get n with
    | none => rfl
    | some o => exact absurd (key n (by rw [hq]; simp)) hn
  refine ⟨hm, fun _ h => by simp at h, fun n hn => (key n hn).2, fun n hn _ => ?_, fun n hn => ?_, fun p hp => by simp [stF] at hp⟩
  · show (hpL hp).get n = _
    rw [Tr.get_e]; exact none_ n (by omega)
  · show (hpL hp).get n = _
    rw [Tr.get_e]; exact none_ n (by have : m ≤ n := hn; omega)
theorem pu0 (fr : dV) : Pu 64 [] .e ⟨fr, .e, 64, []⟩ := ⟨Nat.le_refl _, fun _ h => by simp at h, fun n hn => absurd (Tr.get_e n) hn, fun _ _ _ => rfl, fun _ _ => rfl, fun p hp => by simp at hp⟩
def nH : List Code → Code → Code
  | [], c => c
  | a :: r, c => .seq a (nH r c)
noncomputable def iJ (CT : bQ) (N : Nat) (c : Code) (s : aP) : R (Ex × aP) := kQ CT (kD Tryz.prog CT 20000 60) 20000 64 [] (ccOf (dB Tryz.prog N c)) s
noncomputable def nI (CT : bQ) (N : Nat) : List Code → aP → R aP
  | [], s => .ok s
  | c :: r, s => (iJ CT N c s).bind fun x => match x.1 with
    | .nrm => nI CT N r x.2
    | _ => .no
theorem ccSome {N : Nat} {x : Code} (h : (dB Tryz.prog N x).isSome = true) : dB Tryz.prog N x = some (ccOf (dB Tryz.prog N x)) := by
  cases hx : dB Tryz.prog N x with
  | none => rw [hx] at h; simp at h
  | some y => rfl
section
variable {CT : bQ} (hT : gV Tryz.prog CT)
include hT
theorem rnC_ok {N : Nat} {c : Code} (hc : (dB Tryz.prog N c).isSome = true) {β0 : Names} {w0 : World} {s : aP} {e : Ex} {s' : aP} {β : Names} {A : Act} {w : World} {Q : Exit → Act → World → Prop} (h : (iJ CT N c s).val = some (e, s')) (hfr : ∀ n, 64 ≤ n → β0.ad n = none) (hI : Inv β0 64 N w0 [] s β A w) (pu : Pu 64 [] .e s) (hq : ∀ β A w, Inv β0 64 N w0 [] s' β A w → Pu 64 [] .e s' → Q (exR e) A w) : c.wp Tryz.prog Q A w :=
  yV (mZ hT mixed noNG (L := 20000) 60) mixed c _ (ccSome hc) β0 64 w0 [] .e s e s' β A w Q h (fun n hn _ => hfr n hn) hI pu hq
theorem uP {N : Nat} {β0 : Names} {w0 : World} {Q : Exit → Act → World → Prop} (hfr : ∀ n, 64 ≤ n → β0.ad n = none) {rest : Code} {s' : aP} : ∀ {l : List Code} {s : aP} {β : Names} {A : Act} {w : World}, (l.all fun c => (dB Tryz.prog N c).isSome) = true → (nI CT N l s).val = some s' → Inv β0 64 N w0 [] s β A w → Pu 64 [] .e s → (∀ β A w, Inv β0 64 N w0 [] s' β A w → Pu 64 [] .e s' → rest.wp Tryz.prog Q A w) → (nH l rest).wp Tryz.prog Q A w
  | [], s, β, A, w, _, h, hI, pu, hq => by
    obtain rfl := Option.some.inj h
    exact hq β A w hI pu
  | c :: r, s, β, A, w, hc, h, hI, pu, hq => by
    rw [List.all_cons, Bool.and_eq_true] at hc
    obtain ⟨⟨e, s1⟩, h1, h2⟩ := R.bind_some h
    cases e with
    | nrm => exact wp_seq (rnC_ok hT hc.1 h1 hfr hI pu (fun β A w hI pu => uP hfr hc.2 h2 hI pu hq))
    | exit i => simp [R.val] at h2
    | ret => simp [R.val] at h2
end
def EndF (P : Program) (rs : List RS) (β0 : Names) (N : Nat) (w0 : World) (v : CV) : Exit → Act → World → Prop := EndK P rs β0 64 N w0 (fun c s => Pu 64 [] .e s ∧ ∃ b v', frz s.H 9 c = some (b, v') ∧ b.ok ∧ l7 v' v)
theorem walkF {P : Program} {f : FuncId} {fn : Func} {c : Code} {rs : List RS} {l : List CV} {v : CV} (hf : P.funcs[f]? = some fn) (hb : fn.body = some c) (hn : (fn.name == "runtime.NumGoroutine") = false) (hrs : cmpR P fn.results.toList = some rs) (hN : l.length ≤ fn.ntmps) (hcl : allC (clo 9) l = true)
    (hwp : ∀ (β0 : Names) (w : World) (A : Act), (∀ m, 64 ≤ m → β0.ad m = none) → Inv β0 64 fn.ntmps w [] ⟨frameC 0 l .e, .e, 64, []⟩ β0 A w → c.wp P (EndF P rs β0 fn.ntmps w v) A w)
    {V : Acc} {β : Names} {args : Array Value} {w : World} {nx : Nat} (hG : Gl β) (hR : bJ β l args.toList) (hV : HV V β w) : opw P (callFunc f args) w (fun u w' => ∃ β', pK β β' nx nx [] w w' ∧ RV β' v u ∧ HV V β' w') := by
  have hR0 : bJ (base0 β) l args.toList := bJ.sxs (fun c v hc h => RV.sxs (β := β) (β' := base0 β) (fun _ _ h => h) 9 c v hc h) hcl hR
  have hG0 : Gl (base0 β) := fun g hg => by unfold base0; simp only; rw [if_pos hg]; exact hG g hg
  have hV0 : HV (Tr.e : Tr HO).get (base0 β) w := ⟨fun n o ho => by rw [Tr.get_e] at ho; simp at ho, fun n m a hn => by rw [Tr.get_e] at hn; simp at hn, fun a ha => ⟨(hV.fpa a ha).1, fun n hn => by rw [Tr.get_e] at hn; simp at hn⟩, hV.sxf⟩
  have hw := walk_ok (K := fun c s => Pu 64 [] .e s ∧ ∃ b v', frz s.H 9 c = some (b, v') ∧ b.ok ∧ l7 v' v) hf hb hn hrs hG0 hR0 hV0 (nx := 64) hN (fun A hI => hwp (base0 β) w A (fun m hm => by unfold base0; simp only; rw [if_neg (by omega)]) hI)
  refine fB hw (fun u w' ⟨c, s', β', ⟨pu, b, v', hz, hb, hv⟩, k1, k2, k3⟩ => ?_)
  have hwr : s'.wr = [] := by
    cases hq : s'.wr with
    | nil => rfl
    | cons p r =>
      have := (pu.lg p (by rw [hq]; simp)).2
      exact absurd (Tr.get_e _) this
  rw [hwr] at k1
  have hH : ∀ g, g < 64 ∨ s'.nx ≤ g → s'.H.get g = none := fun g hg => by
    rcases hg with hg | hg
    · rw [pu.kp g hg (by rw [hwr]; simp), Tr.get_e]
    · rw [pu.kq g hg, Tr.get_e]
  have haft : nS (Tr.e : Tr HO).get s'.H 64 s'.nx [] = s'.H.get := by
    funext g
    unfold nS
    by_cases hg : 64 ≤ g ∧ g < s'.nx
    · rw [if_pos (Or.inl hg)]
    · rw [if_neg (by simp only [List.not_mem_nil, or_false]; exact hg), Tr.get_e, hH g (by omega)]
  obtain ⟨q1, q2, q3⟩ := after0 (β := β) (V := V) (H := s'.H) (n1 := s'.nx) (H0 := .e) (nx := nx) (fun g hg hn => absurd (hH g hg) hn) hV k1 (by rw [haft]; exact k3) hz hb k2
  exact ⟨_, q1, hv _ _ q2, q3⟩
def Fin (rs : List RS) (v : CV) (s : aP) : Prop := ∃ lr b v', xP [] s rs = some lr ∧ frz s.H 9 (oneOf lr) = some (b, v') ∧ b.ok ∧ l7 v' v
theorem l7.rfl_ (v : CV) : l7 v v := fun _ _ h => h
theorem l7.wk {b : Bool} {k : IntKind} {z : Int} (h : k.wrap z = z) : l7 (.int b k z) (.int true k z) := fun _ _ hu => ⟨hu.1, fun _ => h⟩
theorem l7.bl (b b' z : Bool) : l7 (.bool b z) (.bool b' z) := fun _ _ hu => hu
theorem Fin.one {t : Nat} {v c : CV} {s : aP} (h : s.fr.get t = some c) (hc : clo 9 c = true) (hp : frz s.H 9 c = some (none, c)) (hv : l7 c v) : Fin [.t (way t)] v s := by
  refine ⟨[c], none, c, ?_, hp, rfl, hv⟩
  simp only [xP]
  rw [show s.fr.at_ (way t) = some c from h]
section
variable {CT : bQ} (hT : gV Tryz.prog CT)
include hT
theorem loopF {N id : Nat} {rs : List RS} {v : CV} {pre pre2 post : List Code} {body : Code} (hp1 : (pre.all fun c => (dB Tryz.prog N c).isSome) = true) (hp2 : (pre2.all fun c => (dB Tryz.prog N c).isSome) = true) (hp3 : (post.all fun c => (dB Tryz.prog N c).isSome) = true) (hp4 : (dB Tryz.prog N body).isSome = true)
    {ι : Type} (J : ι → aP) (μ : ι → Nat) (hpu : ∀ x, Pu 64 [] .e (J x)) {S0 s1 s2 : aP} {x0 : ι} {ρ0 : Nat → Nat} (h1 : (nI CT N pre S0).val = some s1) (h2 : (nI CT N pre2 s1).val = some s2) (h3 : Wk 64 [] ρ0 s2 (J x0))
    (step : ∀ x, ∃ e s', (iJ CT N body (J x)).val = some (e, s') ∧ ((e = .nrm ∧ ∃ y ρ, μ y < μ x ∧ Wk 64 [] ρ s' (J y)) ∨ (e = .ret ∧ Fin rs v s') ∨ (e = .exit id ∧ ∃ s3, (nI CT N post s').val = some s3 ∧ Fin rs v s3)))
    {β0 : Names} {w0 : World} {A : Act} (hfr : ∀ n, 64 ≤ n → β0.ad n = none) (hI : Inv β0 64 N w0 [] S0 β0 A w0) (pu : Pu 64 [] .e S0) : (nH pre (.seq (nH pre2 (.block id (.loop body))) (nH post .ret))).wp Tryz.prog (EndF Tryz.prog rs β0 N w0 v) A w0 := by
  refine uP hT hfr hp1 h1 hI pu (fun β A w hI pu => ?_)
  refine wp_seq (uP hT hfr hp2 h2 hI pu (fun β A w hI pu => ?_))
  refine wp_block ?_
  obtain ⟨β2, hI2⟩ := hI.weak h3 hfr (Nat.le_refl _)
  refine wp_loop_rounds (μ x0 + 1) (loop_ok (mZ hT mixed noNG (L := 20000) 60) mixed (N := N) (L := 20000) (n0 := 64) (ban := []) (c := body) (ccSome hp4) J μ (K := fun e s' => (e = .ret ∧ Fin rs v s') ∨ (e = .exit id ∧ ∃ s3, (nI CT N post s').val = some s3 ∧ Fin rs v s3)) (fun x => ?_) (β0 := β0) (w0 := w0) (H0 := .e) hfr (Nat.le_refl _) hpu (fun e s' β A w hK hI pu => ?_) (μ x0 + 1) x0 β2 A w (Nat.lt_succ_self _) hI2)
  · obtain ⟨e, s', k1, k2⟩ := step x
    refine ⟨e, s', k1, ?_⟩
    rcases k2 with k2 | k2 | k2
    · exact Or.inl k2
    · exact Or.inr ⟨by rw [k2.1]; simp, Or.inl k2⟩
    · exact Or.inr ⟨by rw [k2.1]; simp, Or.inr k2⟩
  · have fin : ∀ {s : aP} {β : Names} {A : Act} {w : World} {e : Exit}, (e = .normal ∨ e = .ret) → Fin rs v s → Inv β0 64 N w0 [] s β A w → Pu 64 [] .e s → EndF Tryz.prog rs β0 N w0 v e A w := by
      rintro s β A w e he ⟨lr, b, v', k1, k2, k3⟩ hI pu
      exact ⟨he, s, β, lr, hI, k1, pu, b, v', k2, k3⟩
    rcases hK with ⟨rfl, hK⟩ | ⟨rfl, s3, k1, k2⟩
    · exact fin (Or.inr rfl) hK hI pu
    · have : (nH post .ret).wp Tryz.prog (EndF Tryz.prog rs β0 N w0 v) A w := uP hT hfr hp3 k1 hI pu (fun β A w hI pu => wp_ret (fin (Or.inr rfl) k2 hI pu))
      unfold exR
      simp only [Exit.inBlock, if_true]
      exact this
end
def keyEq (a b : List Int) : Bool := (List.range 33).foldr (fun j r => (a.getD j 0 == b.getD j 0) && r) true
def hit (cs : List aJ) (os : List Int) (o i : Nat) : Bool := keyEq (cs.getD (o + i) cn0).o os
def rQ (cs : List aJ) (os : List Int) (o n : Nat) : Int := match (List.range n).find? (hit cs os o) with
  | some i => .ofNat i
  | none => .negSucc 0
theorem find_hit {cs : List aJ} {os : List Int} {o n i : Nat} (hi : i < n) (h : hit cs os o i = true) (hb : ∀ j, j < i → hit cs os o j = false) : rQ cs os o n = .ofNat i := by
  have : (List.range n).find? (hit cs os o) = some i := by
    rw [List.find?_range_eq_some]
    exact ⟨h, List.mem_range.2 hi, fun j hj => by rw [hb j hj]; rfl⟩
  unfold rQ
  rw [this]
theorem find_miss {cs : List aJ} {os : List Int} {o n : Nat} (hb : ∀ j, j < n → hit cs os o j = false) : rQ cs os o n = .negSucc 0 := by
  have : (List.range n).find? (hit cs os o) = none := by
    rw [List.find?_eq_none]
    intro j hj
    rw [hb j (List.mem_range.1 hj)]; simp
  unfold rQ
  rw [this]
section
variable (cs : List aJ) (os : List Int) (o n : Nat)
noncomputable def fdC : Code := lL Tryz.f87
noncomputable def fdB : Code := cIn (cIn (kC (kA (kC fdC))))
noncomputable def fdJ (i : Nat) : aP := stF [(0, .fy (.c cs) o n true), (3, .ptr 64 0), (7, .int true .i64 (.ofNat n)), (8, .int true .i64 (.ofNat i))] [(64, .cells (keyV os) 161 false)] 65
noncomputable def fdR (i : Nat) : R (Ex × aP) := iJ cT2 20 fdB (fdJ cs os o n i)
noncomputable def fdL (ds : List Bool) (i : Nat) : Ex × aP := R.lfp (.nrm, dW) ds (fdR cs os o n i)
theorem fdR1 (i : Nat) : R.okp [true, true, true] (fdR cs os o n i) = true ∧ R.cds [true, true, true] (fdR cs os o n i) = [decide ((i : Int) < (n : Int)), (decide ((0 : Int) ≤ (i : Int)) && decide ((i : Int) < (n : Int))), hit cs os o i] := ⟨by kernel_rfl, by kernel_rfl⟩
theorem fdR2 (i : Nat) : R.okp [true, true, false] (fdR cs os o n i) = true ∧ R.cds [true, true, false] (fdR cs os o n i) = [decide ((i : Int) < (n : Int)), (decide ((0 : Int) ≤ (i : Int)) && decide ((i : Int) < (n : Int))), hit cs os o i] := ⟨by kernel_rfl, by kernel_rfl⟩
theorem fdR3 (i : Nat) : R.okp [false] (fdR cs os o n i) = true ∧ R.cds [false] (fdR cs os o n i) = [decide ((i : Int) < (n : Int))] := ⟨by kernel_rfl, by kernel_rfl⟩
theorem keyV_clo : allC (clo 9) (keyV os) = true := by kernel_rfl
noncomputable def fdS0 : aP := ⟨frameC 0 [.fy (.c cs) o n true, .agg (keyV os)] .e, .e, 64, []⟩
noncomputable def fdPre : List Code := [kA fdC]
noncomputable def fdPre2 : List Code := [kA (kA (kC fdC))]
noncomputable def fdPost : List Code := [kA (kC (kC fdC))]
theorem fdCode : fdC = nH fdPre (.seq (nH fdPre2 (.block 0 (.loop fdB))) (nH fdPost .ret)) := by kernel_rfl
noncomputable def fdS1 : aP := R.lf dW (nI cT2 20 fdPre (fdS0 cs os o n))
noncomputable def fdS2 : aP := R.lf dW (nI cT2 20 fdPre2 (fdS1 cs os o n))
noncomputable def fdS3 (s : aP) : aP := R.lf dW (nI cT2 20 fdPost s)
theorem fdSt {s : aP} {i : Nat} (h0 : s.fr.get 0 = some (.fy (.c cs) o n true)) (h3 : s.fr.get 3 = some (.ptr 64 0)) (h7 : s.fr.get 7 = some (.int true .i64 (.ofNat n))) {b : Bool} (h8 : s.fr.get 8 = some (.int b .i64 (.ofNat i))) (hi : i ≤ 140737488355328) (g : s.H.get 64 = some (.cells (keyV os) 161 false)) (hx : Nat.ble 65 s.nx = true) (hw : s.wr = []) : Wk 64 [] (fun n => n) s (fdJ cs os o n i) :=
  wkI ⟨⟨_, h0, pU.clo rfl⟩, ⟨_, h3, pU.pt (by omega) 0 rfl⟩, ⟨_, h7, pU.clo rfl⟩, ⟨_, h8, pU.wk (iW hi)⟩, trivial⟩ ⟨⟨by omega, by omega, _, g, LeO.clo (keyV_clo os)⟩, trivial⟩ (by omega) (dK hx) hw
theorem fdWalk (hn : n ≤ 140737488355328) {β0 : Names} {w0 : World} {A : Act} (hfr : ∀ m, 64 ≤ m → β0.ad m = none) (hI : Inv β0 64 20 w0 [] (fdS0 cs os o n) β0 A w0) : fdC.wp Tryz.prog (EndF Tryz.prog [.t (way 4)] β0 20 w0 (.int true .i64 (rQ cs os o n))) A w0 := by
  rw [fdCode]
  refine loopF cT2_ok (by kernel_rfl) (by kernel_rfl) (by kernel_rfl) (by kernel_rfl) (fun x : { i : Nat // i ≤ n ∧ ∀ j, j < i → hit cs os o j = false } => fdJ cs os o n x.1) (fun x => n - x.1) (fun x => puF (by omega) (by simp)) (S0 := fdS0 cs os o n) (s1 := fdS1 cs os o n) (s2 := fdS2 cs os o n) (x0 := ⟨0, by omega, fun j hj => by omega⟩) (ρ0 := fun n => n) (R.val_ok _ (by kernel_rfl)) (R.val_ok _ (by kernel_rfl)) (fdSt cs os o n (i := 0) (b := false) (by kernel_rfl) (by kernel_rfl) (by kernel_rfl) (by kernel_rfl) (by omega) (by kernel_rfl) (by kernel_rfl) (by kernel_rfl)) (fun x => ?_) hfr hI (pu0 _)
  obtain ⟨i, hi, hb⟩ := x
  show ∃ e s', (fdR cs os o n i).val = some (e, s') ∧ _
  by_cases h1 : i < n
  · have c1 : decide ((i : Int) < (n : Int)) = true := decide_eq_true (by omega)
    have c2 : (decide ((0 : Int) ≤ (i : Int)) && decide ((i : Int) < (n : Int))) = true := by rw [c1, decide_eq_true (by omega : (0 : Int) ≤ (i : Int))]; rfl
    cases hh : hit cs os o i with
    | true =>
      refine ⟨.ret, _, R.val_pe (.nrm, dW) (fdR1 cs os o n i).1 (by rw [(fdR1 cs os o n i).2, c2, c1, hh]) (by kernel_rfl), Or.inr (Or.inl ⟨rfl, ?_⟩)⟩
      rw [find_hit h1 hh hb]
      exact Fin.one (c := .int true .i64 (.ofNat i)) (by kernel_rfl) rfl rfl (l7.rfl_ _)
    | false =>
      refine ⟨.nrm, _, R.val_pe (.nrm, dW) (fdR2 cs os o n i).1 (by rw [(fdR2 cs os o n i).2, c2, c1, hh]) (by kernel_rfl), Or.inl ⟨rfl, ⟨i + 1, by omega, fun j hj => ?_⟩, fun n => n, by show n - (i + 1) < n - i; omega, ?_⟩⟩
      · by_cases e : j = i
        · rw [e]; exact hh
        · exact hb j (by omega)
      · have k8 : (fdL cs os o n [true, true, false] i).2.fr.get 8 = some (.int true .i64 (dP .i64 (.ofNat (i + 1)))) := by kernel_rfl
        rw [bZ, iW (by omega)] at k8
        exact fdSt cs os o n (i := i + 1) (by kernel_rfl) (by kernel_rfl) (by kernel_rfl) k8 (by omega) (by kernel_rfl) (by kernel_rfl) (by kernel_rfl)
  · refine ⟨.exit 0, _, R.val_pe (.nrm, dW) (fdR3 cs os o n i).1 (by rw [(fdR3 cs os o n i).2, decide_eq_false (by omega)]) (by kernel_rfl), Or.inr (Or.inr ⟨rfl, fdS3 (fdL cs os o n [false] i).2, R.val_ok _ (by kernel_rfl), ?_⟩)⟩
    rw [find_miss (fun j hj => hb j (by omega))]
    exact Fin.one (c := .int false .i64 (.negSucc 0)) (by kernel_rfl) rfl rfl (l7.wk rfl)
end
theorem keyV_rv {β β' : Names} {ks : List CV} {os : List Int} {us : List Value} (h : osOf ks = some os) (hu : bJ β ks us) : bJ β' (keyV os) us := by
  obtain ⟨e, w1, w2⟩ := osOf_cells h hu
  rw [e]
  unfold keyV
  refine bJ.append (bJ.of_get (by simp) (fun j x hx => ?_)) ⟨_, _, rfl, ⟨rfl, fun _ => w2⟩, rfl⟩
  rw [List.getElem?_map, Option.map_eq_some_iff] at hx
  obtain ⟨j', hj', rfl⟩ := hx
  have hlt : j' < 32 := List.mem_range.1 (List.mem_of_getElem? hj')
  exact ⟨.int .u8 (os.getD j' 0), by rw [List.getElem?_map, hj']; rfl, rfl, fun _ => w1 j' hlt⟩
noncomputable def findS (l : List CV) (_ : Acc) : R CV := match l with
  | [.fy (.c cs) o n _, .agg ks] => match osOf ks with
    | some os => .ok (.int true .i64 (rQ cs os o n))
    | none => .no
  | _ => .no
set_option maxRecDepth 20000 in
theorem find_pur : bM Tryz.prog 87 findS := by
  intro l V v h β args w nx hG hR hV
  unfold findS at h
  split at h
  · split at h
    · rename_i cs o n u ks _ os hos
      obtain rfl := Option.some.inj h
      obtain ⟨u1, r1, e1, q1, u2, r2, e2, ⟨us, e3, q2⟩, e4⟩ := hR
      have hR' : bJ β [.fy (.c cs) o n true, .agg (keyV os)] args.toList := ⟨u1, r1, e1, q1, u2, r2, e2, ⟨us, e3, keyV_rv hos q2⟩, e4⟩
      exact walkF Tryz.func87 (by kernel_rfl) (by kernel_rfl) (by kernel_rfl) (by show 2 ≤ 20; omega) (by kernel_rfl) (fun β0 w A hfr hI => fdWalk cs os o n q1.2.1 hfr hI) hG hR' hV
    · simp [R.val] at h
  · simp [R.val] at h
def totZ (cs : List aJ) (o : Nat) : Nat → Int
  | 0 => 0
  | i + 1 => dP .i64 (totZ cs o i + (cs.getD (o + i) cn0).v)
theorem totZ_rg (cs : List aJ) (o : Nat) : ∀ i, IntKind.i64.wrap (totZ cs o i) = totZ cs o i
  | 0 => by rw [totZ]; rfl
  | i + 1 => by rw [totZ]; exact kR _ _
section
variable (cs : List aJ) (o n : Nat)
noncomputable def ttC : Code := lL Tryz.f89
noncomputable def ttB : Code := cIn (cIn (kC (kA (kC (kC ttC)))))
noncomputable def ttJ (i : Nat) : aP := stF [(3, .int true .i64 (totZ cs o i)), (6, .fy (.c cs) o n true), (7, .int true .i64 (.ofNat n)), (8, .int true .i64 (.ofNat i))] [] 64
noncomputable def ttR (i : Nat) : R (Ex × aP) := iJ cT2 19 ttB (ttJ cs o n i)
noncomputable def ttL (ds : List Bool) (i : Nat) : Ex × aP := R.lfp (.nrm, dW) ds (ttR cs o n i)
noncomputable def ttS0 : aP := ⟨frameC 0 [.fy (.c cs) o n true] .e, .e, 64, []⟩
noncomputable def ttPre : List Code := [kA ttC, kA (kC ttC)]
noncomputable def ttPre2 : List Code := [kA (kA (kC (kC ttC)))]
noncomputable def ttPost : List Code := [kA (kC (kC (kC ttC)))]
theorem ttCode : ttC = nH ttPre (.seq (nH ttPre2 (.block 0 (.loop ttB))) (nH ttPost .ret)) := by kernel_rfl
noncomputable def ttS1 : aP := R.lf dW (nI cT2 19 ttPre (ttS0 cs o n))
noncomputable def ttS2 : aP := R.lf dW (nI cT2 19 ttPre2 (ttS1 cs o n))
noncomputable def ttS3 (s : aP) : aP := R.lf dW (nI cT2 19 ttPost s)
theorem ttR1 (i : Nat) : R.okp [true, true] (ttR cs o n i) = true ∧ R.cds [true, true] (ttR cs o n i) = [decide ((i : Int) < (n : Int)), (decide ((0 : Int) ≤ (i : Int)) && decide ((i : Int) < (n : Int)))] := ⟨by kernel_rfl, by kernel_rfl⟩
theorem ttR2 (i : Nat) : R.okp [false] (ttR cs o n i) = true ∧ R.cds [false] (ttR cs o n i) = [decide ((i : Int) < (n : Int))] := ⟨by kernel_rfl, by kernel_rfl⟩
theorem ttSt {s : aP} {i : Nat} {a : Bool} (h3 : s.fr.get 3 = some (.int a .i64 (totZ cs o i))) (h6 : s.fr.get 6 = some (.fy (.c cs) o n true)) (h7 : s.fr.get 7 = some (.int true .i64 (.ofNat n))) {b : Bool} (h8 : s.fr.get 8 = some (.int b .i64 (.ofNat i))) (hi : i ≤ 140737488355328) (hx : Nat.ble 64 s.nx = true) (hw : s.wr = []) : Wk 64 [] (fun n => n) s (ttJ cs o n i) :=
  wkI ⟨⟨_, h3, pU.wk (totZ_rg cs o i)⟩, ⟨_, h6, pU.clo rfl⟩, ⟨_, h7, pU.clo rfl⟩, ⟨_, h8, pU.wk (iW hi)⟩, trivial⟩ trivial (by omega) (dK hx) hw
theorem ttWalk (hn : n ≤ 140737488355328) {β0 : Names} {w0 : World} {A : Act} (hfr : ∀ m, 64 ≤ m → β0.ad m = none) (hI : Inv β0 64 19 w0 [] (ttS0 cs o n) β0 A w0) : ttC.wp Tryz.prog (EndF Tryz.prog [.t (way 2)] β0 19 w0 (.int true .i64 (totZ cs o n))) A w0 := by
  rw [ttCode]
  refine loopF cT2_ok (by kernel_rfl) (by kernel_rfl) (by kernel_rfl) (by kernel_rfl) (fun x : { i : Nat // i ≤ n } => ttJ cs o n x.1) (fun x => n - x.1) (fun x => puF (by omega) (by simp)) (S0 := ttS0 cs o n) (s1 := ttS1 cs o n) (s2 := ttS2 cs o n) (x0 := ⟨0, by omega⟩) (ρ0 := fun n => n) (R.val_ok _ (by kernel_rfl)) (R.val_ok _ (by kernel_rfl)) (ttSt cs o n (i := 0) (a := false) (b := false) (by kernel_rfl) (by kernel_rfl) (by kernel_rfl) (by kernel_rfl) (by omega) (by kernel_rfl) (by kernel_rfl)) (fun x => ?_) hfr hI (pu0 _)
  obtain ⟨i, hi⟩ := x
  show ∃ e s', (ttR cs o n i).val = some (e, s') ∧ _
  by_cases h1 : i < n
  · have c1 : decide ((i : Int) < (n : Int)) = true := decide_eq_true (by omega)
    have c2 : (decide ((0 : Int) ≤ (i : Int)) && decide ((i : Int) < (n : Int))) = true := by rw [c1, decide_eq_true (by omega : (0 : Int) ≤ (i : Int))]; rfl
    refine ⟨.nrm, _, R.val_pe (.nrm, dW) (ttR1 cs o n i).1 (by rw [(ttR1 cs o n i).2, c2, c1]) (by kernel_rfl), Or.inl ⟨rfl, ⟨i + 1, by omega⟩, fun n => n, by show n - (i + 1) < n - i; omega, ?_⟩⟩
    have k8 : (ttL cs o n [true, true] i).2.fr.get 8 = some (.int true .i64 (dP .i64 (.ofNat (i + 1)))) := by kernel_rfl
    rw [bZ, iW (by omega)] at k8
    exact ttSt cs o n (i := i + 1) (a := true) (by kernel_rfl) (by kernel_rfl) (by kernel_rfl) k8 (by omega) (by kernel_rfl) (by kernel_rfl)
  · refine ⟨.exit 0, _, R.val_pe (.nrm, dW) (ttR2 cs o n i).1 (by rw [(ttR2 cs o n i).2, decide_eq_false (by omega)]) (by kernel_rfl), Or.inr (Or.inr ⟨rfl, ttS3 (ttL cs o n [false] i).2, R.val_ok _ (by kernel_rfl), ?_⟩)⟩
    rw [show n = i by omega]
    exact Fin.one (c := .int true .i64 (totZ cs o i)) (by kernel_rfl) rfl rfl (l7.rfl_ _)
end
def totS (l : List CV) (_ : Acc) : R CV := match l with
  | [.fy (.c cs) o n _] => .ok (.int true .i64 (totZ cs o n))
  | _ => .no
set_option maxRecDepth 20000 in
theorem tot_pur : bM Tryz.prog 89 totS := by
  intro l V v h β args w nx hG hR hV
  unfold totS at h
  split at h
  · rename_i cs o n u
    obtain rfl := Option.some.inj h
    obtain ⟨u1, r1, e1, q1, e2⟩ := hR
    have hR' : bJ β [.fy (.c cs) o n true] args.toList := ⟨u1, r1, e1, q1, e2⟩
    exact walkF Tryz.func89 (by kernel_rfl) (by kernel_rfl) (by kernel_rfl) (by show 1 ≤ 19; omega) (by kernel_rfl) (fun β0 w A hfr hI => ttWalk cs o n q1.2.1 hfr hI) hG hR' hV
  · simp [R.val] at h
namespace R
variable {α : Type}
noncomputable def isNo (r : R α) : Bool := R.rec true (fun _ => false) (fun _ _ _ _ _ => false) r
noncomputable def allS (p : α → Bool) (r : R α) : Bool := R.rec true p (fun _ t f a b => match isNo t with
  | true => match isNo f with
    | true => false
    | false => b
  | false => match a with
    | true => b
    | false => false) r
def imp (b : Bool) (l : List Bool) : List Bool := l.map fun c => !b || c
noncomputable def ckL (r : R α) : List Bool := R.rec [] (fun _ => []) (fun b t f a c => match isNo t with
  | true => (!b) :: c
  | false => match isNo f with
    | true => b :: a
    | false => imp b a ++ imp (!b) c) r
theorem imp_ok {b : Bool} {l : List Bool} (h : ∀ c ∈ imp b l, c = true) (hb : b = true) : ∀ c ∈ l, c = true := by
  intro c hc
  have := h (!b || c) (List.mem_map.2 ⟨c, hc, rfl⟩)
  rw [hb] at this
  simpa using this
theorem all_of {p : α → Bool} : ∀ {r : R α}, isNo r = false → allS p r = true → (∀ c ∈ ckL r, c = true) → ∃ a, r.val = some a ∧ p a = true
  | .no, h, _, _ => by have h' : true = false := h; simp at h'
  | .ok a, _, h, _ => ⟨a, rfl, h⟩
  | .br b t f, _, h, hc => by
    have h' : (match isNo t with
      | true => match isNo f with
        | true => false
        | false => allS p f
      | false => match allS p t with
        | true => allS p f
        | false => false) = true := h
    have hc' : ∀ c ∈ (match isNo t with
      | true => (!b) :: ckL f
      | false => match isNo f with
        | true => b :: ckL t
        | false => imp b (ckL t) ++ imp (!b) (ckL f)), c = true := hc
    cases ht : isNo t with
    | true =>
      rw [ht] at hc' h'
      have hb := hc' (!b) (by simp)
      cases b with
      | true => simp at hb
      | false =>
        cases hf : isNo f with
        | true => rw [hf] at h'; simp at h'
        | false =>
          rw [hf] at h'
          obtain ⟨a, k1, k2⟩ := all_of hf h' (fun c hc => hc' c (by simp [hc]))
          exact ⟨a, k1, k2⟩
    | false =>
      rw [ht] at hc' h'
      have h1 : allS p t = true ∧ allS p f = true := by
        simp only at h'
        split at h'
        · rename_i q; exact ⟨q, h'⟩
        · simp at h'
      cases hf : isNo f with
      | true =>
        rw [hf] at hc'
        have hb := hc' b (by simp)
        subst hb
        obtain ⟨a, k1, k2⟩ := all_of ht h1.1 (fun c hc => hc' c (by simp [hc]))
        exact ⟨a, k1, k2⟩
      | false =>
        rw [hf] at hc'
        simp only at hc'
        cases b with
        | true =>
          obtain ⟨a, k1, k2⟩ := all_of ht h1.1 (imp_ok (b := true) (fun c hc => hc' c (List.mem_append_left _ hc)) rfl)
          exact ⟨a, k1, k2⟩
        | false =>
          obtain ⟨a, k1, k2⟩ := all_of hf h1.2 (imp_ok (b := !false) (fun c hc => hc' c (List.mem_append_right _ hc)) rfl)
          exact ⟨a, k1, k2⟩
noncomputable def noneS (p : α → Bool) (r : R α) : Bool := R.rec true (fun a => !p a) (fun _ _ _ a b => match a with
  | true => b
  | false => false) r
noncomputable def onlyS (p : α → Bool) : List Bool → R α → Bool
  | [], .ok _ => true
  | d :: ds, .br _ t f => match d with
    | true => match noneS p f with
      | true => onlyS p ds t
      | false => false
    | false => match noneS p t with
      | true => onlyS p ds f
      | false => false
  | _, _ => false
theorem y7 {p : α → Bool} {a : α} (hp : p a = true) : ∀ {r : R α}, noneS p r = true → r.val ≠ some a
  | .no, _ => by simp [val]
  | .ok b, h => by
    intro e
    obtain rfl := Option.some.inj e
    have h' : (!p b) = true := h
    rw [hp] at h'; simp at h'
  | .br b t f, h => by
    have h' : (match noneS p t with
      | true => noneS p f
      | false => false) = true := h
    split at h'
    · rename_i ht
      cases b with
      | true => exact fun e => y7 hp ht e
      | false => exact fun e => y7 hp h' e
    · simp at h'
theorem onlyS_ok (a0 : α) {p : α → Bool} {a : α} (hp : p a = true) : ∀ {ds : List Bool} {r : R α}, onlyS p ds r = true → r.val = some a → a = lfp a0 ds r ∧ cds ds r = ds
  | [], .ok b, _, hv => ⟨(Option.some.inj hv).symm, rfl⟩
  | [], .no, h, _ => by simp [onlyS] at h
  | [], .br _ _ _, h, _ => by simp [onlyS] at h
  | _ :: _, .no, h, _ => by simp [onlyS] at h
  | _ :: _, .ok _, h, _ => by simp [onlyS] at h
  | d :: ds, .br b t f, h, hv => by
    cases d with
    | true =>
      simp only [onlyS] at h
      split at h
      · rename_i hn
        cases b with
        | true =>
          obtain ⟨k1, k2⟩ := onlyS_ok a0 hp (ds := ds) (r := t) h hv
          exact ⟨k1, by simp only [cds]; rw [k2]⟩
        | false => exact absurd hv (fun e => y7 hp hn e)
      · simp at h
    | false =>
      simp only [onlyS] at h
      split at h
      · rename_i hn
        cases b with
        | false =>
          obtain ⟨k1, k2⟩ := onlyS_ok a0 hp (ds := ds) (r := f) h hv
          exact ⟨k1, by simp only [cds]; rw [k2]⟩
        | true => exact absurd hv (fun e => y7 hp hn e)
      · simp at h
def sub : List Bool → R α → R α
  | [], r => r
  | d :: ds, .br _ t f => match d with
    | true => sub ds t
    | false => sub ds f
  | _ :: _, r => r
def isSub : List Bool → R α → Bool
  | [], _ => true
  | d :: ds, .br _ t f => match d with
    | true => isSub ds t
    | false => isSub ds f
  | _ :: _, _ => false
theorem val_sub : ∀ {ds : List Bool} {r : R α}, isSub ds r = true → cds ds r = ds → r.val = (sub ds r).val
  | [], _, _, _ => rfl
  | _ :: _, .no, h, _ => by simp [isSub] at h
  | _ :: _, .ok _, h, _ => by simp [isSub] at h
  | d :: ds, .br b t f, h, hc => by
    simp only [cds, List.cons.injEq] at hc
    obtain ⟨rfl, hc⟩ := hc
    cases b with
    | true => exact val_sub (ds := ds) (r := t) h hc
    | false => exact val_sub (ds := ds) (r := f) h hc
theorem lfp_sub (a0 : α) {ds : List Bool} : ∀ {pre : List Bool} {r : R α}, isSub pre r = true → lfp a0 ds (sub pre r) = lfp a0 (pre ++ ds) r
  | [], _, _ => rfl
  | _ :: _, .no, h => by simp [isSub] at h
  | _ :: _, .ok _, h => by simp [isSub] at h
  | d :: pre, .br b t f, h => by
    cases d with
    | true => exact lfp_sub a0 (pre := pre) (r := t) h
    | false => exact lfp_sub a0 (pre := pre) (r := f) h
end R
def setP (i : Nat) (v : CV) (l : List CV) : List CV := l.take i ++ v :: l.drop (i + 1)
theorem setP_rv {β : Names} {i : Nat} {k : IntKind} {z : Int} {v : Nat} {p : List CV} {us : List Value} (hp : p[i]? = some (.int true k z)) (hz : z = (v : Int)) (h : bJ β p us) : bJ β (setP i (.int false k (.ofNat v)) p) us := by
  have hi : i < p.length := (List.getElem?_eq_some_iff.1 hp).1
  obtain ⟨u, k1, k2⟩ := h.get hp
  have hl := h.len
  have e : us = us.take i ++ u :: us.drop (i + 1) := by
    have e2 : us.drop i = u :: us.drop (i + 1) := by
      rw [List.drop_eq_getElem_cons (by omega : i < us.length)]
      congr 1
      exact (List.getElem?_eq_some_iff.1 k1).2
    rw [← e2, List.take_append_drop]
  rw [e]
  unfold setP
  refine bJ.append (h.take i) ⟨_, _, rfl, ⟨?_, nofun⟩, h.drop (i + 1)⟩
  rw [k2.1, hz]; rfl
noncomputable def runE (CT : bQ) (N : Nat) : List Code → aP → R (Ex × aP)
  | [], s => .ok (.nrm, s)
  | c :: r, s => (iJ CT N c s).bind fun x => match x.1 with
    | .nrm => runE CT N r x.2
    | e => .ok (e, x.2)
theorem Fin.end {N : Nat} {rs : List RS} {v : CV} {β0 : Names} {w0 : World} {s : aP} {β : Names} {A : Act} {w : World} {e : Exit} (he : e = .normal ∨ e = .ret) (h : Fin rs v s) (hI : Inv β0 64 N w0 [] s β A w) (pu : Pu 64 [] .e s) : EndF Tryz.prog rs β0 N w0 v e A w := by
  obtain ⟨lr, b, v', k1, k2, k3⟩ := h
  exact ⟨he, s, β, lr, hI, k1, pu, b, v', k2, k3⟩
section
variable {CT : bQ} (hT : gV Tryz.prog CT)
include hT
theorem runE_ok {N : Nat} {rs : List RS} {v : CV} {β0 : Names} {w0 : World} (hfr : ∀ n, 64 ≤ n → β0.ad n = none) {rest : Code} {e' : Ex} {s' : aP} : ∀ {l : List Code} {s : aP} {β : Names} {A : Act} {w : World}, (l.all fun c => (dB Tryz.prog N c).isSome) = true → (runE CT N l s).val = some (e', s') → Inv β0 64 N w0 [] s β A w → Pu 64 [] .e s → (e' = .ret → Fin rs v s') → (e' = .nrm ∨ e' = .ret) → (∀ β A w, e' = .nrm → Inv β0 64 N w0 [] s' β A w → Pu 64 [] .e s' → rest.wp Tryz.prog (EndF Tryz.prog rs β0 N w0 v) A w) → (nH l rest).wp Tryz.prog (EndF Tryz.prog rs β0 N w0 v) A w
  | [], s, β, A, w, _, h, hI, pu, _, _, hq => by
    have h := Option.some.inj h
    simp only [Prod.mk.injEq] at h
    obtain ⟨rfl, rfl⟩ := h
    exact hq β A w rfl hI pu
  | c :: r, s, β, A, w, hc, h, hI, pu, hf, he, hq => by
    rw [List.all_cons, Bool.and_eq_true] at hc
    obtain ⟨⟨e, s1⟩, h1, h2⟩ := R.bind_some h
    cases e with
    | nrm => exact wp_seq (rnC_ok hT hc.1 h1 hfr hI pu (fun β A w hI pu => runE_ok hfr hc.2 h2 hI pu hf he hq))
    | exit i =>
      simp only [R.val, Option.some.injEq, Prod.mk.injEq] at h2
      obtain ⟨rfl, rfl⟩ := h2
      rcases he with he | he <;> simp at he
    | ret =>
      simp only [R.val, Option.some.injEq, Prod.mk.injEq] at h2
      obtain ⟨rfl, rfl⟩ := h2
      exact wp_seq (rnC_ok hT hc.1 h1 hfr hI pu (fun β A w hI pu => Fin.end (Or.inr rfl) (hf rfl) hI pu))
theorem loopE {N id : Nat} {rs : List RS} {v : CV} {pre pre2 post : List Code} {body : Code} (hp1 : (pre.all fun c => (dB Tryz.prog N c).isSome) = true) (hp2 : (pre2.all fun c => (dB Tryz.prog N c).isSome) = true) (hp3 : (post.all fun c => (dB Tryz.prog N c).isSome) = true) (hp4 : (dB Tryz.prog N body).isSome = true)
    {ι : Type} (J : ι → aP) (μ : ι → Nat) (hpu : ∀ x, Pu 64 [] .e (J x)) {S0 s1 : aP} {e1 : Ex} (h1 : (runE CT N pre S0).val = some (e1, s1)) (h2 : (e1 = .ret ∧ Fin rs v s1) ∨ (e1 = .nrm ∧ ∃ s2 x0 ρ0, (nI CT N pre2 s1).val = some s2 ∧ Wk 64 [] ρ0 s2 (J x0)))
    (step : ∀ x, ∃ e s', (iJ CT N body (J x)).val = some (e, s') ∧ ((e = .nrm ∧ ∃ y ρ, μ y < μ x ∧ Wk 64 [] ρ s' (J y)) ∨ (e = .ret ∧ Fin rs v s') ∨ (e = .exit id ∧ ∃ s3, (nI CT N post s').val = some s3 ∧ Fin rs v s3)))
    {β0 : Names} {w0 : World} {A : Act} (hfr : ∀ n, 64 ≤ n → β0.ad n = none) (hI : Inv β0 64 N w0 [] S0 β0 A w0) (pu : Pu 64 [] .e S0) : (nH pre (.seq (nH pre2 (.block id (.loop body))) (nH post .ret))).wp Tryz.prog (EndF Tryz.prog rs β0 N w0 v) A w0 := by
  rcases h2 with ⟨rfl, h2⟩ | ⟨rfl, s2, x0, ρ0, h2, h3⟩
  · exact runE_ok hT hfr hp1 h1 hI pu (fun _ => h2) (Or.inr rfl) (fun _ _ _ h => by simp at h)
  · refine runE_ok hT hfr hp1 h1 hI pu (fun h => by simp at h) (Or.inl rfl) (fun β A w _ hI pu => ?_)
    refine wp_seq (uP hT hfr hp2 h2 hI pu (fun β A w hI pu => ?_))
    refine wp_block ?_
    obtain ⟨β2, hI2⟩ := hI.weak h3 hfr (Nat.le_refl _)
    refine wp_loop_rounds (μ x0 + 1) (loop_ok (mZ hT mixed noNG (L := 20000) 60) mixed (N := N) (L := 20000) (n0 := 64) (ban := []) (c := body) (ccSome hp4) J μ (K := fun e s' => (e = .ret ∧ Fin rs v s') ∨ (e = .exit id ∧ ∃ s3, (nI CT N post s').val = some s3 ∧ Fin rs v s3)) (fun x => ?_) (β0 := β0) (w0 := w0) (H0 := .e) hfr (Nat.le_refl _) hpu (fun e s' β A w hK hI pu => ?_) (μ x0 + 1) x0 β2 A w (Nat.lt_succ_self _) hI2)
    · obtain ⟨e, s', k1, k2⟩ := step x
      refine ⟨e, s', k1, ?_⟩
      rcases k2 with k2 | k2 | k2
      · exact Or.inl k2
      · exact Or.inr ⟨by rw [k2.1]; simp, Or.inl k2⟩
      · exact Or.inr ⟨by rw [k2.1]; simp, Or.inr k2⟩
    · rcases hK with ⟨rfl, hK⟩ | ⟨rfl, s3, k1, k2⟩
      · exact Fin.end (Or.inr rfl) hK hI pu
      · have : (nH post .ret).wp Tryz.prog (EndF Tryz.prog rs β0 N w0 v) A w := uP hT hfr hp3 k1 hI pu (fun β A w hI pu => wp_ret (Fin.end (Or.inr rfl) k2 hI pu))
        unfold exR
        simp only [Exit.inBlock, if_true]
        exact this
end
def isRet (a : Ex × aP) : Bool := match a.1 with
  | .ret => true
  | _ => false
def isNrm (a : Ex × aP) : Bool := match a.1 with
  | .nrm => true
  | _ => false
noncomputable def takes {α : Type} (p : α → Bool) (r : R α) : Bool := R.rec false p (fun b _ _ x y => match b with
  | true => x
  | false => y) r
theorem uG {α : Type} {p : α → Bool} {a : α} : ∀ {r : R α}, r.val = some a → takes p r = p a
  | .no, h => by simp [R.val] at h
  | .ok b, h => by rw [← Option.some.inj h]; rfl
  | .br true t f, h => uG (r := t) h
  | .br false t f, h => uG (r := f) h
section
variable (h : Int) (tip : List Int) (cs : List aJ) (o n : Nat)
noncomputable def sdC : Code := lL Tryz.f138
noncomputable def sdB : Code := cIn (cIn (kC (kA (kC (kC (kC sdC))))))
def tipV : List CV := (List.range 32).map fun j => .int true .u8 (tip.getD j 0)
def ledT : List CV := .int true .i64 h :: tipV tip ++ [.fy (.c cs) o n true]
noncomputable def sdJ (i : Nat) : aP := stF [(1, .ptr 64 0), (3, .int true .i64 (totZ cs o i)), (21, .fy (.c cs) o n true), (22, .int true .i64 (.ofNat n)), (23, .int true .i64 (.ofNat i))] [(64, .cells (ledT h tip cs o n) 76 false)] 65
noncomputable def sdR (i : Nat) : R (Ex × aP) := iJ cT2 80 sdB (sdJ h tip cs o n i)
noncomputable def sdS0 : aP := ⟨frameC 0 [.agg (ledT h tip cs o n)] .e, .e, 64, []⟩
noncomputable def sdPre : List Code := [kA sdC, kA (kC sdC), kA (kC (kC sdC))]
noncomputable def sdPre2 : List Code := [kA (kA (kC (kC (kC sdC))))]
noncomputable def sdPost : List Code := [kA (kC (kC (kC (kC sdC))))]
theorem sdCode : sdC = nH sdPre (.seq (nH sdPre2 (.block 0 (.loop sdB))) (nH sdPost .ret)) := by kernel_rfl
noncomputable def sdP : R (Ex × aP) := runE cT2 80 sdPre (sdS0 h tip cs o n)
noncomputable def falseIn (t : Nat) (a : Ex × aP) : Bool := match a.1 with
  | .ret => match a.2.fr.get t with
    | some (.bool false false) => true
    | _ => false
  | .nrm => true
  | _ => false
theorem falseIn_ok {t : Nat} {a : Ex × aP} (h : falseIn t a = true) : (a.1 = .ret ∧ a.2.fr.get t = some (.bool false false)) ∨ a.1 = .nrm := by
  unfold falseIn at h
  split at h
  · rename_i he
    split at h
    · rename_i hg; exact Or.inl ⟨he, hg⟩
    · simp at h
  · rename_i he; exact Or.inr he
  · simp at h
noncomputable def sdBad (i : Nat) : Bool := takes isRet (sdR h tip cs o n i)
noncomputable def sndZ : Bool := !takes isRet (sdP h tip cs o n) && (List.range n).all fun i => !sdBad h tip cs o n i
noncomputable def sdL (ds : List Bool) (i : Nat) : Ex × aP := R.lfp (.nrm, dW) ds (sdR h tip cs o n i)
noncomputable def sdD : List Bool := [true, true, true, true, false, false, false, false, false, false]
noncomputable def sdE : List Bool := [true, true, false, false, false, false, false, false]
theorem sdR1 (i : Nat) : R.isSub [true, true, true, true] (sdR h tip cs o n i) = true ∧ R.cds [true, true, true, true] (sdR h tip cs o n i) = [decide ((i : Int) < (n : Int)), (decide ((0 : Int) ≤ (i : Int)) && decide ((i : Int) < (n : Int))), decide ((i : Int) > 0), (decide ((0 : Int) ≤ gSub .i64 (i : Int) 1) && decide (gSub .i64 (i : Int) 1 < (n : Int)))] := ⟨by kernel_rfl, by kernel_rfl⟩
theorem sdR2 (i : Nat) : R.isSub [true, true, false] (sdR h tip cs o n i) = true ∧ R.cds [true, true, false] (sdR h tip cs o n i) = [decide ((i : Int) < (n : Int)), (decide ((0 : Int) ≤ (i : Int)) && decide ((i : Int) < (n : Int))), decide ((i : Int) > 0)] := ⟨by kernel_rfl, by kernel_rfl⟩
theorem sdR3 (i : Nat) : R.okp [false] (sdR h tip cs o n i) = true ∧ R.cds [false] (sdR h tip cs o n i) = [decide ((i : Int) < (n : Int))] := ⟨by kernel_rfl, by kernel_rfl⟩
theorem sdSub (pre ds : List Bool) (i : Nat) (h1 : R.isNo (R.sub pre (sdR h tip cs o n i)) = false) (h2 : R.allS (falseIn 2) (R.sub pre (sdR h tip cs o n i)) = true) (h3 : R.ckL (R.sub pre (sdR h tip cs o n i)) = []) (h4 : R.onlyS isNrm ds (R.sub pre (sdR h tip cs o n i)) = true) (h5 : R.isSub pre (sdR h tip cs o n i) = true) (hv : (sdR h tip cs o n i).val = (R.sub pre (sdR h tip cs o n i)).val) : ∃ a, (sdR h tip cs o n i).val = some a ∧ ((a.1 = .ret ∧ a.2.fr.get 2 = some (.bool false false)) ∨ (a.1 = .nrm ∧ a = sdL h tip cs o n (pre ++ ds) i)) := by
  obtain ⟨a, k1, k2⟩ := R.all_of h1 h2 (by rw [h3]; simp)
  refine ⟨a, hv.trans k1, ?_⟩
  rcases falseIn_ok k2 with k | k
  · exact Or.inl k
  · exact Or.inr ⟨k, (R.onlyS_ok (.nrm, dW) (by unfold isNrm; rw [k]) h4 k1).1.trans (R.lfp_sub _ h5)⟩
noncomputable def sdS2 (s : aP) : aP := R.lf dW (nI cT2 80 sdPre2 s)
noncomputable def sdS3 (s : aP) : aP := R.lf dW (nI cT2 80 sdPost s)
noncomputable def sdS1 : aP := (R.lfp (.nrm, dW) [false, false, false] (sdP h tip cs o n)).2
theorem sdV2 : (nI cT2 80 sdPre2 (sdS1 h tip cs o n)).val = some (sdS2 (sdS1 h tip cs o n)) := R.val_ok dW (by kernel_rfl)
theorem sdV3 (i : Nat) : (nI cT2 80 sdPost (sdL h tip cs o n [false] i).2).val = some (sdS3 (sdL h tip cs o n [false] i).2) := R.val_ok dW (by kernel_rfl)
theorem tipV_clo : allC (clo 9) (ledT h tip cs o n) = true := by kernel_rfl
theorem sdSt {s : aP} {i : Nat} {a b c : Bool} (h1 : s.fr.get 1 = some (.ptr 64 0)) (h3 : s.fr.get 3 = some (.int a .i64 (totZ cs o i))) (h21 : s.fr.get 21 = some (.fy (.c cs) o n true)) (h22 : s.fr.get 22 = some (.int true .i64 (.ofNat n))) (h23 : s.fr.get 23 = some (.int b .i64 (.ofNat i))) (hi : i ≤ 140737488355328) (g : s.H.get 64 = some (.cells (ledT h tip cs o n) 76 false)) (hx : Nat.ble 65 s.nx = true) (hw : s.wr = []) : Wk 64 [] (fun n => n) s (sdJ h tip cs o n i) :=
  wkI ⟨⟨_, h1, pU.pt (by omega) 0 rfl⟩, ⟨_, h3, pU.wk (totZ_rg cs o i)⟩, ⟨_, h21, pU.clo rfl⟩, ⟨_, h22, pU.clo rfl⟩, ⟨_, h23, pU.wk (iW hi)⟩, trivial⟩ ⟨⟨by omega, by omega, _, g, LeO.clo (tipV_clo h tip cs o n)⟩, trivial⟩ (by omega) (dK hx) hw
theorem finFalse {v : Bool} {s : aP} (hs : s.fr.get 2 = some (.bool false false)) (hv : v = false) : Fin [.t (way 2)] (.bool true v) s := Fin.one hs rfl rfl (by rw [hv]; exact l7.bl _ _ _)
theorem sdWalk (hn : n ≤ 140737488355328) {β0 : Names} {w0 : World} {A : Act} (hfr : ∀ m, 64 ≤ m → β0.ad m = none) (hI : Inv β0 64 80 w0 [] (sdS0 h tip cs o n) β0 A w0) : sdC.wp Tryz.prog (EndF Tryz.prog [.t (way 2)] β0 80 w0 (.bool true (sndZ h tip cs o n))) A w0 := by
  have h1 : ∃ a, (sdP h tip cs o n).val = some a ∧ ((a.1 = .ret ∧ a.2.fr.get 2 = some (.bool false false)) ∨ (a.1 = .nrm ∧ a = R.lfp (.nrm, dW) [false, false, false] (sdP h tip cs o n))) := by
    obtain ⟨a, k1, k2⟩ := R.all_of (p := falseIn 2) (r := sdP h tip cs o n) (by kernel_rfl) (by kernel_rfl) (by rw [show R.ckL (sdP h tip cs o n) = [] by kernel_rfl]; simp)
    refine ⟨a, k1, ?_⟩
    rcases falseIn_ok k2 with k | k
    · exact Or.inl k
    · exact Or.inr ⟨k, (R.onlyS_ok (.nrm, dW) (p := isNrm) (by unfold isNrm; rw [k]) (by kernel_rfl) k1).1⟩
  obtain ⟨⟨e1, s1⟩, hv1, h1⟩ := h1
  have ht := uG (p := isRet) hv1
  rw [sdCode]
  refine loopE cT2_ok (by kernel_rfl) (by kernel_rfl) (by kernel_rfl) (by kernel_rfl) (fun x : { i : Nat // i ≤ n ∧ takes isRet (sdP h tip cs o n) = false ∧ ∀ j, j < i → sdBad h tip cs o n j = false } => sdJ h tip cs o n x.1) (fun x => n - x.1) (fun x => puF (by omega) (by simp)) (S0 := sdS0 h tip cs o n) hv1 ?_ (fun x => ?_) hfr hI (pu0 _)
  · rcases h1 with ⟨rfl, h1⟩ | ⟨rfl, h1⟩
    · refine Or.inl ⟨rfl, finFalse h1 ?_⟩
      unfold sndZ
      rw [ht]; rfl
    · obtain rfl : s1 = sdS1 h tip cs o n := congrArg Prod.snd h1
      have ht' : takes isRet (sdP h tip cs o n) = false := by rw [ht]; rfl
      refine Or.inr ⟨rfl, sdS2 (sdS1 h tip cs o n), ⟨0, Nat.zero_le n, ht', fun j hj => absurd hj (Nat.not_lt_zero j)⟩, fun n => n, sdV2 h tip cs o n, ?_⟩
      exact sdSt h tip cs o n (i := 0) (a := false) (b := false) (c := false) (by kernel_rfl) (by kernel_rfl) (by kernel_rfl) (by kernel_rfl) (by kernel_rfl) (by omega) (by kernel_rfl) (by kernel_rfl) (by kernel_rfl)
  · obtain ⟨i, hi, hp, hb⟩ := x
    show ∃ e s', (sdR h tip cs o n i).val = some (e, s') ∧ _
    by_cases h1 : i < n
    · have c1 : decide ((i : Int) < (n : Int)) = true := decide_eq_true (by omega)
      have c2 : (decide ((0 : Int) ≤ (i : Int)) && decide ((i : Int) < (n : Int))) = true := by rw [c1, decide_eq_true (by omega : (0 : Int) ≤ (i : Int))]; rfl
      have fin : ∀ (ds : List Bool) (a : Ex × aP), (sdR h tip cs o n i).val = some a → ((a.1 = .ret ∧ a.2.fr.get 2 = some (.bool false false)) ∨ (a.1 = .nrm ∧ a = sdL h tip cs o n ds i)) → (Wk 64 [] (fun n => n) (sdL h tip cs o n ds i).2 (sdJ h tip cs o n (i + 1))) → ∃ e s', (sdR h tip cs o n i).val = some (e, s') ∧ ((e = .nrm ∧ ∃ (y : { i : Nat // i ≤ n ∧ takes isRet (sdP h tip cs o n) = false ∧ ∀ j, j < i → sdBad h tip cs o n j = false }) (ρ : Nat → Nat), n - y.1 < n - i ∧ Wk 64 [] ρ s' (sdJ h tip cs o n y.1)) ∨ (e = .ret ∧ Fin [.t (way 2)] (.bool true (sndZ h tip cs o n)) s') ∨ (e = .exit 0 ∧ ∃ s3, (nI cT2 80 sdPost s').val = some s3 ∧ Fin [.t (way 2)] (.bool true (sndZ h tip cs o n)) s3)) := by
        rintro ds ⟨e, s'⟩ hv hc hw
        have hbd : sdBad h tip cs o n i = isRet (e, s') := uG hv
        refine ⟨e, s', hv, ?_⟩
        rcases hc with ⟨rfl, hc⟩ | ⟨rfl, hc⟩
        · refine Or.inr (Or.inl ⟨rfl, finFalse hc ?_⟩)
          unfold sndZ
          rw [Bool.and_eq_false_iff]
          right
          rw [List.all_eq_false]
          exact ⟨i, List.mem_range.2 h1, by rw [hbd]; simp [isRet]⟩
        · refine Or.inl ⟨rfl, ⟨i + 1, by omega, hp, fun j hj => ?_⟩, fun n => n, by show n - (i + 1) < n - i; omega, ?_⟩
          · by_cases e : j = i
            · rw [e, hbd]; rfl
            · exact hb j (by omega)
          · have : s' = (sdL h tip cs o n ds i).2 := congrArg Prod.snd hc
            rw [this]; exact hw
      have w8 : dP .i64 (.ofNat (i + 1)) = .ofNat (i + 1) := by rw [bZ, iW (by omega)]
      by_cases h0 : 0 < i
      · have c4 : (decide ((0 : Int) ≤ gSub .i64 (i : Int) 1) && decide (gSub .i64 (i : Int) 1 < (n : Int))) = true := by
          have : gSub .i64 (i : Int) 1 = (i : Int) - 1 := by
            unfold gSub
            have e : (i : Int) - 1 = Int.ofNat (i - 1) := by show (i : Int) - 1 = ((i - 1 : Nat) : Int); omega
            rw [bZ, e, iW (by omega)]
          rw [this, decide_eq_true (by omega : (0 : Int) ≤ (i : Int) - 1), decide_eq_true (by omega : (i : Int) - 1 < (n : Int))]; rfl
        have hv := R.val_sub (sdR1 h tip cs o n i).1 (by rw [(sdR1 h tip cs o n i).2, c4, c2, c1, decide_eq_true (by omega : (i : Int) > 0)])
        obtain ⟨a, k1, k2⟩ := sdSub h tip cs o n [true, true, true, true] [false, false, false, false, false, false] i (by kernel_rfl) (by kernel_rfl) (by kernel_rfl) (by kernel_rfl) (by kernel_rfl) hv
        refine fin sdD a k1 k2 ?_
        have k23 : (sdL h tip cs o n sdD i).2.fr.get 23 = some (.int true .i64 (dP .i64 (.ofNat (i + 1)))) := by kernel_rfl
        rw [w8] at k23
        exact sdSt h tip cs o n (i := i + 1) (a := true) (c := true) (by kernel_rfl) (by kernel_rfl) (by kernel_rfl) (by kernel_rfl) k23 (by omega) (by kernel_rfl) (by kernel_rfl) (by kernel_rfl)
      · have hv := R.val_sub (sdR2 h tip cs o n i).1 (by rw [(sdR2 h tip cs o n i).2, c2, c1, decide_eq_false (by omega : ¬ (i : Int) > 0)])
        obtain ⟨a, k1, k2⟩ := sdSub h tip cs o n [true, true, false] [false, false, false, false, false] i (by kernel_rfl) (by kernel_rfl) (by kernel_rfl) (by kernel_rfl) (by kernel_rfl) hv
        refine fin sdE a k1 k2 ?_
        have k23 : (sdL h tip cs o n sdE i).2.fr.get 23 = some (.int true .i64 (dP .i64 (.ofNat (i + 1)))) := by kernel_rfl
        rw [w8] at k23
        exact sdSt h tip cs o n (i := i + 1) (a := true) (c := true) (by kernel_rfl) (by kernel_rfl) (by kernel_rfl) (by kernel_rfl) k23 (by omega) (by kernel_rfl) (by kernel_rfl) (by kernel_rfl)
    · refine ⟨.exit 0, _, R.val_pe (.nrm, dW) (sdR3 h tip cs o n i).1 (by rw [(sdR3 h tip cs o n i).2, decide_eq_false (by omega)]) (by kernel_rfl), Or.inr (Or.inr ⟨rfl, sdS3 (sdL h tip cs o n [false] i).2, sdV3 h tip cs o n i, ?_⟩)⟩
      refine Fin.one (c := .bool false true) (by kernel_rfl) rfl rfl ?_
      have : sndZ h tip cs o n = true := by
        unfold sndZ
        rw [hp]
        simp only [Bool.not_false, Bool.true_and]
        rw [List.all_eq_true]
        intro j hj
        rw [hb j (by have := List.mem_range.1 hj; omega)]; rfl
      rw [this]
      exact l7.bl _ _ _
end
def ledOf (l : List CV) : Option (Int × List Int × List aJ × Nat × Nat) := match l with
  | .int s .i64 h :: r => match wX s .i64 h, osK .u8 (r.take 32), r.drop 32 with
    | true, some tip, [.fy (.c cs) o n _] => match Nat.beq tip.length 32 with
      | true => some (h, tip, cs, o, n)
      | false => none
    | _, _, _ => none
  | _ => none
theorem tipV_eq {k : IntKind} {zs : List Int} {us : List Value} (hl : zs.length = 32) (e : us = zs.map (Value.int .u8)) (hw : ∀ z ∈ zs, IntKind.u8.wrap z = z) (β : Names) : bJ β (tipV zs) us := by
  rw [e]
  refine bJ.of_get (by simp [tipV, hl]) (fun j x hx => ?_)
  unfold tipV at hx
  rw [List.getElem?_map, Option.map_eq_some_iff] at hx
  obtain ⟨j', hj', rfl⟩ := hx
  have hlt : j < 32 := by have := (List.getElem?_eq_some_iff.1 hj').1; simpa using this
  rw [List.getElem?_range hlt] at hj'
  obtain rfl := Option.some.inj hj'
  have hj : j < zs.length := by omega
  have hd : zs.getD j 0 = zs[j] := by rw [List.getD_eq_getElem?_getD, List.getElem?_eq_getElem hj]; rfl
  rw [hd]
  exact ⟨.int .u8 zs[j], by rw [List.getElem?_map, List.getElem?_eq_getElem hj]; rfl, rfl, fun _ => hw _ (List.getElem_mem hj)⟩
theorem ledOf_ok {β : Names} {l : List CV} {h : Int} {tip : List Int} {cs : List aJ} {o n : Nat} {us : List Value} (he : ledOf l = some (h, tip, cs, o, n)) (hu : bJ β l us) : bJ β (ledT h tip cs o n) us ∧ n ≤ 140737488355328 := by
  unfold ledOf at he
  split at he
  · rename_i s h' r
    split at he
    · rename_i tip' cs' o' n' u' hr ht hd
      split at he
      · rename_i hl
        simp only [Option.some.injEq, Prod.mk.injEq] at he
        obtain ⟨rfl, rfl, rfl, rfl, rfl⟩ := he
        obtain ⟨u, us', rfl, h1, h2⟩ := hu
        obtain ⟨e, w⟩ := osK_ok ht (h2.take 32)
        have h3 := h2.drop 32
        rw [hd] at h3
        obtain ⟨u2, r2, e2, q, e3⟩ := h3
        refine ⟨⟨u, us', rfl, ⟨h1.1, fun _ => gJ hr h1.2⟩, ?_⟩, q.2.1⟩
        rw [← List.take_append_drop 32 us']
        exact bJ.append (tipV_eq (k := .u8) (Nat.eq_of_beq_eq_true hl) e w β) ⟨u2, r2, e2, q, e3⟩
      · simp at he
    · simp at he
  · simp at he
noncomputable def sndS (l : List CV) (_ : Acc) : R CV := match l with
  | [.agg p] => match ledOf p with
    | some (h, tip, cs, o, n) => .ok (.bool true (sndZ h tip cs o n))
    | none => .no
  | _ => .no
set_option maxRecDepth 20000 in
theorem snd_pur : bM Tryz.prog 138 sndS := by
  intro l V v hh β args w nx hG hR hV
  unfold sndS at hh
  split at hh
  · split at hh
    · rename_i h tip cs o n hl
      obtain rfl := Option.some.inj hh
      obtain ⟨u1, r1, e1, ⟨us, e3, q1⟩, e2⟩ := hR
      obtain ⟨q2, q3⟩ := ledOf_ok hl q1
      have hR' : bJ β [.agg (ledT h tip cs o n)] args.toList := ⟨u1, r1, e1, ⟨us, e3, q2⟩, e2⟩
      exact walkF Tryz.func138 (by kernel_rfl) (by kernel_rfl) (by kernel_rfl) (by show 1 ≤ 80; omega) (by kernel_rfl) (fun β0 w A hfr hI => sdWalk h tip cs o n q3 hfr hI) hG hR' hV
    · simp [R.val] at hh
  · simp [R.val] at hh
end Go.Proofs.YtcgdimlbbdfdpaaGreatDoor
