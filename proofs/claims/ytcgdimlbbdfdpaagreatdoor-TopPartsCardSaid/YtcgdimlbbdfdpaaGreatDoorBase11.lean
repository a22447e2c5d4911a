/-
  What this statement needs, part 11: the texts of it, one behind the other.
-/
import Derived.Test.YtcgdimlbbdfdpaaGreatDoorBase1
import Derived.Test.YtcgdimlbbdfdpaaGreatDoorBase3
import Derived.Test.YtcgdimlbbdfdpaaGreatDoorBase4
import Derived.Test.YtcgdimlbbdfdpaaGreatDoorBase5
import Derived.Test.YtcgdimlbbdfdpaaGreatDoorBase7
import Derived.Test.YtcgdimlbbdfdpaaGreatDoorBase8
import Derived.Test.YtcgdimlbbdfdpaaGreatDoorBase9
import Derived.Test.YtcgdimlbbdfdpaaGreatDoorProg
set_option maxRecDepth 100000
set_option linter.all false
namespace Go.Proofs.YtcgdimlbbdfdpaaGreatDoor
open Go Go.RowKit
abbrev O8 (α : Type) := Nat → Nat → Nat → Nat → Nat → Nat → Nat → Nat → α
abbrev O16 (α : Type) := Nat → Nat → Nat → Nat → Nat → Nat → Nat → Nat → Nat → Nat → Nat → Nat → Nat → Nat → Nat → Nat → α
def kRnd {α : Type} (K : Nat) (ih : O16 (O8 α)) : O16 (O8 α) := fun w0 w1 w2 w3 w4 w5 w6 w7 w8 w9 w10 w11 w12 w13 w14 w15 a b c d e f g h =>
  frc (fT1 K w0 e f g h) fun t => frc (fA t (fT2 a b c)) fun x => frc (fA d t) fun y => frc (fW w0 w1 w9 w14) fun w16 => ih w1 w2 w3 w4 w5 w6 w7 w8 w9 w10 w11 w12 w13 w14 w15 w16 x a b c y e f g
noncomputable def kGo {α : Type} (k : O8 α) (l : List Nat) : O16 (O8 α) := List.rec (fun _ _ _ _ _ _ _ _ _ _ _ _ _ _ _ _ a b c d e f g h => k a b c d e f g h) (fun K _ ih => kRnd K ih) l
def kAdd {α : Type} (k : O8 α) (a b c d e f g h : Nat) : O8 α := fun a' b' c' d' e' f' g' h' =>
  frc (fA a a') fun a => frc (fA b b') fun b => frc (fA c c') fun c => frc (fA d d') fun d => frc (fA e e') fun e => frc (fA f f') fun f => frc (fA g g') fun g => frc (fA h h') fun h => k a b c d e f g h
noncomputable def kBlk {α : Type} (k : O8 α) (n : Nat) : List Nat → O8 α := Nat.rec (fun _ => k) (fun _ ih ws a b c d e f g h => match ws with
  | w0 :: w1 :: w2 :: w3 :: w4 :: w5 :: w6 :: w7 :: w8 :: w9 :: w10 :: w11 :: w12 :: w13 :: w14 :: w15 :: r => kGo (kAdd (ih r) a b c d e f g h) kL w0 w1 w2 w3 w4 w5 w6 w7 w8 w9 w10 w11 w12 w13 w14 w15 a b c d e f g h
  | _ => k a b c d e f g h) n
noncomputable def kWds (n : Nat) : List Nat → List Nat := Nat.rec (fun _ => []) (fun _ ih l => match l with
  | a :: b :: c :: d :: r => frc (((a * 256 + b) * 256 + c) * 256 + d) fun x => x :: ih r
  | _ => []) n
noncomputable def kRep (n : Nat) (r : List Nat) : List Nat := Nat.rec r (fun _ ih => 0 :: ih) n
def kPad (n : Nat) : List Nat := [n * 8 / 72057594037927936 % 256, n * 8 / 281474976710656 % 256, n * 8 / 1099511627776 % 256, n * 8 / 4294967296 % 256, n * 8 / 16777216 % 256, n * 8 / 65536 % 256, n * 8 / 256 % 256, n * 8 % 256]
def kB (x : Nat) (r : List CV) : List CV := frc (x % 256) fun y => .int false .u8 (.ofNat y) :: r
def kW4 (w : Nat) (r : List CV) : List CV := kB (w / 16777216) (kB (w / 65536) (kB (w / 256) (kB w r)))
def kDig : O8 CV := fun a b c d e f g h => .agg (kW4 a (kW4 b (kW4 c (kW4 d (kW4 e (kW4 f (kW4 g (kW4 h []))))))))
noncomputable def kSha (l : List Nat) (n : Nat) : CV :=
  frc ((64 - (n + 9) % 64) % 64) fun z => frc ((n + z + 9) / 64) fun m => kBlk kDig m (kWds (m * 16) (l ++ 128 :: kRep z (kPad n))) 1779033703 3144134277 1013904242 2773480762 1359893119 2600822924 528734635 1541459225
def kByt (x : CV) (ih : Option (List Nat)) : Option (List Nat) := match x with
  | .int false .u8 (.ofNat b) => match Nat.blt b 256 with
    | true => match ih with
      | some l => some (b :: l)
      | none => none
    | false => none
  | _ => none
noncomputable def kByts (l : List CV) : Option (List Nat) := List.rec (some []) (fun x _ ih => kByt x ih) l
def isW (x : CV) (n : Nat) : Bool := match x with
  | .int false .u32 (.ofNat m) => Nat.beq m n
  | _ => false
noncomputable def isWs (l : List CV) : List Nat → Bool := List.rec (fun ns => match ns with | [] => true | _ => false) (fun x _ ih ns => match ns with
  | [] => false
  | n :: ns => match isW x n with
    | true => ih ns
    | false => false) l
def kSym (x : CV) (ih : Option (List Int)) : Option (List Int) := match x with
  | .int s .u8 n => match s, wX s .u8 n, ih with
    | true, _, some l => some (n :: l)
    | false, true, some l => some (n :: l)
    | _, _, _ => none
  | _ => none
noncomputable def kSyms (l : List CV) : Option (List Int) := List.rec (some []) (fun x _ ih => kSym x ih) l
def symB (A : Nat) : List CV := (List.range 32).map fun j => .int true .u8 (byt A j)
noncomputable def kSumB (l : List CV) (V : Acc) : Option CV := match l with
  | [.sl g o n c _] => match V g with
    | some (.cells cs _ _) => match Nat.ble (o + n) cs.length, Nat.blt 0 n, Nat.ble n c, Nat.blt n 1099511627776 with
      | true, true, true, true => match kByts ((cs.drop o).take n) with
        | some bs => some (kSha bs n)
        | none => match kSyms ((cs.drop o).take n) with
          | some ns => some (.agg (symB (shaN (ns.map ob))))
          | none => none
      | _, _, _, _ => none
    | _ => none
  | _ => none
def kI8 : List Nat := [1779033703, 3144134277, 1013904242, 2773480762, 1359893119, 2600822924, 528734635, 1541459225]
noncomputable def kSumP (gk gi : Nat) (l : List CV) (V : Acc) : Option CV := match V gk, V gi with
  | some (.ro ck), some (.ro ci) => match isWs ck kL, isWs ci kI8 with
    | true, true => kSumB l V
    | _, _ => none
  | _, _ => none
def kNum (l : List CV) (k : Nat → Option CV) : Option CV := match l with
  | [.int false .u64 (.ofNat a), .int false .u64 (.ofNat b), .int false .u64 (.ofNat c), .int false .u64 (.ofNat d)] => match Nat.blt a 18446744073709551616, Nat.blt b 18446744073709551616, Nat.blt c 18446744073709551616, Nat.blt d 18446744073709551616 with
    | true, true, true, true => frc (((d * 18446744073709551616 + c) * 18446744073709551616 + b) * 18446744073709551616 + a) k
    | _, _, _, _ => none
  | _ => none
def kL64 (x : Nat) (r : List CV) : List CV := frc (x % 18446744073709551616) fun y => .int false .u64 (.ofNat y) :: r
def kU (A : Nat) : CV := .agg (kL64 A (kL64 (A / 18446744073709551616) (kL64 (A / 340282366920938463463374607431768211456) (kL64 (A / 6277101735386680763835789423207666416102355444464034512896) []))))
def kShl (l : List CV) (_ : Acc) : Option CV := match l with
  | [.agg x, .int false .i64 (.ofNat n)] => kNum x fun A => match Nat.blt n 256 with
    | true => frc (A * 2 ^ n % M) fun B => some (kU B)
    | false => some (kU 0)
  | _ => none
def kShr (l : List CV) (_ : Acc) : Option CV := match l with
  | [.agg x, .int false .i64 (.ofNat n)] => kNum x fun A => match Nat.blt n 256 with
    | true => frc (A / 2 ^ n) fun B => some (kU B)
    | false => some (kU 0)
  | _ => none
def kLen (l : List CV) (_ : Acc) : Option CV := match l with
  | [.agg x] => kNum x fun A => match A with
    | 0 => some (.int false .i64 (.ofNat 0))
    | Nat.succ p => frc (Nat.log2 (Nat.succ p) + 1) fun y => some (.int false .i64 (.ofNat y))
  | _ => none
def kDiv (l : List CV) (_ : Acc) : Option CV := match l with
  | [.agg x, .agg y, .agg z] => kNum x fun hi => kNum y fun lo => kNum z fun b => match Nat.ble b hi with
    | true => none
    | false => frc ((hi * M + lo) / b) fun q => frc ((hi * M + lo) % b) fun r => some (.tup [kU q, kU r, .bool false true])
  | _ => none
def kLen64 (l : List CV) (_ : Acc) : Option CV := match l with
  | [.int false .u64 (.ofNat x)] => match Nat.blt x 18446744073709551616 with
    | true => match x with
      | 0 => some (.int false .i64 (.ofNat 0))
      | Nat.succ p => frc (Nat.log2 (Nat.succ p) + 1) fun y => some (.int false .i64 (.ofNat y))
    | false => none
  | _ => none
def kAdd64 (l : List CV) (_ : Acc) : Option CV := match l with
  | [.int false .u64 (.ofNat x), .int false .u64 (.ofNat y), .int false .u64 (.ofNat c)] => match Nat.blt x 18446744073709551616, Nat.blt y 18446744073709551616, Nat.blt c 2 with
    | true, true, true => frc ((x + y + c) % 18446744073709551616) fun a => frc ((x + y + c) / 18446744073709551616) fun b => some (.tup [.int false .u64 (.ofNat a), .int false .u64 (.ofNat b)])
    | _, _, _ => none
  | _ => none
noncomputable def kLow (n : Nat) : Nat → List CV := Nat.rec (fun _ => []) (fun _ ih v => frc (v % 256) fun b => frc (v / 256) fun r => .int false .u8 (.ofNat b) :: ih r) n
noncomputable def kLit (l : List CV) (_ : Acc) (H : Tr HO) (nx : Nat) : R Out := match l with
  | [.int false .u64 (.ofNat v), .int false .i64 (.ofNat n)] => match ((Nat.beq n 1 || Nat.beq n 2) || (Nat.beq n 4 || Nat.beq n 8)) && Nat.blt v 18446744073709551616 with
    | true => frc n fun n => frc (nx + 1) fun m => .ok ⟨.sl nx 0 n n 0, H.set nx (.cells (kLow n v) 5 false), m, []⟩
    | false => .no
  | _ => .no
def ap8 {α : Type} (k : O8 α) : jC → α
  | (a, b, c, d, e, f, g, h) => k a b c d e f g h
theorem kGo_eq {α : Type} (k : O8 α) : ∀ (l : List Nat) (w0 w1 w2 w3 w4 w5 w6 w7 w8 w9 w10 w11 w12 w13 w14 w15 a b c d e f g h : Nat), kGo k l w0 w1 w2 w3 w4 w5 w6 w7 w8 w9 w10 w11 w12 w13 w14 w15 a b c d e f g h = ap8 k (fgo l w0 w1 w2 w3 w4 w5 w6 w7 w8 w9 w10 w11 w12 w13 w14 w15 a b c d e f g h)
  | [], _, _, _, _, _, _, _, _, _, _, _, _, _, _, _, _, _, _, _, _, _, _, _, _ => rfl
  | K :: l, w0, w1, w2, w3, w4, w5, w6, w7, w8, w9, w10, w11, w12, w13, w14, w15, a, b, c, d, e, f, g, h => by
    show kRnd K (kGo k l) w0 w1 w2 w3 w4 w5 w6 w7 w8 w9 w10 w11 w12 w13 w14 w15 a b c d e f g h = _
    unfold kRnd
    rw [fgo]
    simp only [fO]
    exact kGo_eq k l ..
theorem kAdd_eq {α : Type} (k : O8 α) (a b c d e f g h : Nat) (s : jC) : ap8 (kAdd k a b c d e f g h) s = ap8 k (addS (a, b, c, d, e, f, g, h) s) := by
  obtain ⟨a', b', c', d', e', f', g', h'⟩ := s
  simp only [ap8, kAdd, fO]
  rfl
theorem gB_mid {X : List UInt8} {l h k : Nat} (hk : l + k < h) : gB (mid X l h) k = gB X (l + k) := by
  unfold gB mid
  simp only [List.getD_eq_getElem?_getD, List.getElem?_take, List.getElem?_drop]
  rw [if_pos (by omega)]
theorem eU {X : List UInt8} {i j : Nat} (hj : j < 16) : word (mid X (64 * i) (64 * i + 64)) j = word X (16 * i + j) := by
  unfold word
  rw [gB_mid (by omega), gB_mid (by omega), gB_mid (by omega), gB_mid (by omega)]
  rw [show 64 * i + 4 * j = 4 * (16 * i + j) by omega, show 64 * i + (4 * j + 1) = 4 * (16 * i + j) + 1 by omega, show 64 * i + (4 * j + 2) = 4 * (16 * i + j) + 2 by omega, show 64 * i + (4 * j + 3) = 4 * (16 * i + j) + 3 by omega]
theorem r16 (f : Nat → Nat) : (List.range 16).map f = [f 0, f 1, f 2, f 3, f 4, f 5, f 6, f 7, f 8, f 9, f 10, f 11, f 12, f 13, f 14, f 15] := rfl
def wds (X : List UInt8) : Nat → Nat → List Nat
  | _, 0 => []
  | i, n + 1 => word X i :: wds X (i + 1) n
theorem kBlk_eq {α : Type} (k : O8 α) (X : List UInt8) : ∀ (m i : Nat) (a b c d e f g h : Nat), rM X i = (a, b, c, d, e, f, g, h) → kBlk k m (wds X (16 * i) (m * 16)) a b c d e f g h = ap8 k (rM X (i + m))
  | 0, i, a, b, c, d, e, f, g, h, hs => by rw [Nat.add_zero, hs]; rfl
  | m + 1, i, a, b, c, d, e, f, g, h, hs => by
    rw [show (m + 1) * 16 = m * 16 + 1 + 1 + 1 + 1 + 1 + 1 + 1 + 1 + 1 + 1 + 1 + 1 + 1 + 1 + 1 + 1 by omega]
    simp only [wds]
    show kGo (kAdd (kBlk k m (wds X (16 * i + 1 + 1 + 1 + 1 + 1 + 1 + 1 + 1 + 1 + 1 + 1 + 1 + 1 + 1 + 1 + 1) (m * 16))) a b c d e f g h) kL (word X (16 * i)) (word X (16 * i + 1)) (word X (16 * i + 2)) (word X (16 * i + 3)) (word X (16 * i + 4)) (word X (16 * i + 5)) (word X (16 * i + 6)) (word X (16 * i + 7)) (word X (16 * i + 8)) (word X (16 * i + 9)) (word X (16 * i + 10)) (word X (16 * i + 11)) (word X (16 * i + 12)) (word X (16 * i + 13)) (word X (16 * i + 14)) (word X (16 * i + 15)) a b c d e f g h = _
    rw [kGo_eq, kAdd_eq]
    have e1 := fcmp_eq (X := mid X (64 * i) (64 * i + 64)) (a := a) (b := b) (c := c) (d := d) (e := e) (f := f) (g := g) (h := h) (r16 _)
    rw [eU (by decide), eU (by decide), eU (by decide), eU (by decide), eU (by decide), eU (by decide), eU (by decide), eU (by decide), eU (by decide), eU (by decide), eU (by decide), eU (by decide), eU (by decide), eU (by decide), eU (by decide), eU (by decide)] at e1
    unfold fcmp at e1
    simp only [Nat.add_zero] at e1
    rw [← e1, ← hs]
    have e2 : rM X (i + 1) = eP (rM X i) (mid X (64 * i) (64 * i + 64)) := rfl
    rw [← e2]
    have e3 : 16 * i + 1 + 1 + 1 + 1 + 1 + 1 + 1 + 1 + 1 + 1 + 1 + 1 + 1 + 1 + 1 + 1 = 16 * (i + 1) := by omega
    rw [e3, show i + (m + 1) = i + 1 + m by omega]
    have key : ∀ s : jC, rM X (i + 1) = s → ap8 (kBlk k m (wds X (16 * (i + 1)) (m * 16))) s = ap8 k (rM X (i + 1 + m)) := by
      intro s hq
      obtain ⟨a', b', c', d', e', f', g', h'⟩ := s
      exact kBlk_eq k X m (i + 1) a' b' c' d' e' f' g' h' hq
    exact key _ rfl
def xC (X : List UInt8) : List Nat := X.map UInt8.toNat
theorem word_drop (X : List UInt8) (i j : Nat) : word (X.drop (4 * i)) j = word X (i + j) := by
  unfold word gB
  simp only [List.getD_eq_getElem?_getD, List.getElem?_drop]
  rw [show 4 * i + 4 * j = 4 * (i + j) by omega, show 4 * i + (4 * j + 1) = 4 * (i + j) + 1 by omega, show 4 * i + (4 * j + 2) = 4 * (i + j) + 2 by omega, show 4 * i + (4 * j + 3) = 4 * (i + j) + 3 by omega]
theorem kWds_eq (X : List UInt8) : ∀ (n i : Nat), 4 * (i + n) ≤ X.length → kWds n (xC (X.drop (4 * i))) = wds X i n
  | 0, i, _ => rfl
  | n + 1, i, h => by
    have hl : 4 ≤ (X.drop (4 * i)).length := by rw [List.length_drop]; omega
    have e0 := word_drop X i 0
    have e1 : X.drop (4 * (i + 1)) = (X.drop (4 * i)).drop 4 := by rw [List.drop_drop]; congr 1
    have ih := kWds_eq X n (i + 1) (by omega)
    rw [e1] at ih
    match hX : X.drop (4 * i), hl with
    | a :: b :: c :: d :: r, _ =>
      rw [hX] at ih e0
      have e2 : word (a :: b :: c :: d :: r) 0 = ((a.toNat * 256 + b.toNat) * 256 + c.toNat) * 256 + d.toNat := rfl
      show frc (((a.toNat * 256 + b.toNat) * 256 + c.toNat) * 256 + d.toNat) (fun x => x :: kWds n (xC r)) = _
      rw [fO, wds, ← e2, e0, ← ih]
      rfl
theorem kRep_eq : ∀ (n : Nat) (r : List Nat), kRep n r = List.replicate n 0 ++ r
  | 0, _ => rfl
  | n + 1, r => by show 0 :: kRep n r = _; rw [kRep_eq n r]; rfl
theorem ob_to {x : Nat} (h : x < 256) : (ob ((x : Nat) : Int)).toNat = x := by
  have := ob_nat (x := ((x : Nat) : Int)) (by omega)
  omega
theorem nats_pad (n : Nat) : xC (aK n) = 128 :: kRep (zeros n) (kPad n) := by
  unfold aK
  rw [kRep_eq]
  unfold xC
  rw [List.map_cons, List.map_append, List.map_replicate]
  have e : (be8 (8 * n) 8).map UInt8.toNat = kPad n := by
    unfold be8 kPad
    rw [show List.range 8 = [0, 1, 2, 3, 4, 5, 6, 7] from rfl]
    simp only [List.map_cons, List.map_nil]
    rw [ob_to (by omega), ob_to (by omega), ob_to (by omega), ob_to (by omega), ob_to (by omega), ob_to (by omega), ob_to (by omega), ob_to (by omega), Nat.mul_comm 8 n]
    simp
  rw [e]
  rfl
def rowC (l : List Nat) : List CV := l.map fun x => .int false .u8 (.ofNat x)
theorem kDig_eq (s : jC) : ap8 kDig s = .agg (rowC ((List.range 32).map fun m => dY s (m / 4) / 2 ^ (24 - m % 4 * 8) % 256)) := by
  obtain ⟨a, b, c, d, e, f, g, h⟩ := s
  simp only [ap8, kDig, kW4, kB, fO, rowC]
  rw [show List.range 32 = [0, 1, 2, 3, 4, 5, 6, 7, 8, 9, 10, 11, 12, 13, 14, 15, 16, 17, 18, 19, 20, 21, 22, 23, 24, 25, 26, 27, 28, 29, 30, 31] from rfl]
  simp [dY]
theorem RVs_row {β : Names} (k : IntKind) : ∀ l : List Nat, bJ β (l.map fun x => .int false k (.ofNat x)) (l.map fun x => Value.int k ((x : Nat) : Int))
  | [] => rfl
  | x :: l => ⟨_, _, rfl, ⟨rfl, nofun⟩, RVs_row k l⟩
theorem kSha_rv {β : Names} (B : List UInt8) : RV β (kSha (xC B) B.length) (.agg (hB (shaN B))) := by
  have hl : (sH B).length = B.length + zeros B.length + 9 := by unfold sH; rw [List.length_append, nZ]; omega
  have h64 : (sH B).length % 64 = 0 := by unfold sH; rw [List.length_append]; exact pad_mod _
  have e1 : xC B ++ 128 :: kRep (zeros B.length) (kPad B.length) = xC ((sH B).drop (4 * 0)) := by
    unfold sH
    rw [← nats_pad]
    unfold xC
    rw [← List.map_append]; rfl
  have e2 : kSha (xC B) B.length = ap8 kDig (rM (sH B) ((sH B).length / 64)) := by
    unfold kSha
    rw [fO, fO]
    have hz : (64 - (B.length + 9) % 64) % 64 = zeros B.length := rfl
    rw [hz, e1, ← hl]
    rw [kWds_eq (sH B) _ 0 (by omega)]
    have := kBlk_eq kDig (sH B) ((sH B).length / 64) 0 1779033703 3144134277 1013904242 2773480762 1359893119 2600822924 528734635 1541459225 rfl
    rw [Nat.zero_add] at this
    exact this
  rw [e2, kDig_eq]
  refine ⟨hB (shaN B), rfl, ?_⟩
  have e3 : hB (shaN B) = bG .u8 32 (fun m => dY (rM (sH B) ((sH B).length / 64)) (m / 4) / 2 ^ (24 - m % 4 * 8) % 256) := by
    rw [rowK_bytes]; rfl
  rw [e3]
  have := RVs_row (β := β) .u8 ((List.range 32).map fun m => dY (rM (sH B) ((sH B).length / 64)) (m / 4) / 2 ^ (24 - m % 4 * 8) % 256)
  unfold rowC bG
  rw [List.map_map] at this ⊢
  rw [List.map_map] at this
  exact this
theorem UpN.of_below {w w' : World} (h : Below w.heap.size w w') : UpN (fun _ => False) w w' := ⟨h.os, h.tape, h.output, h.size, fun k hk _ => h.block k hk⟩
theorem opw_call {P : Program} {f : FuncId} {fn : Func} {c : Code} {args : Array Value} {w : World} {K : Value → World → Prop} (hf : P.funcs[f]? = some fn) (hb : fn.body = some c) (hn : (fn.name == "runtime.NumGoroutine") = false) {u : Value} {Q : World → Prop} (h : Calls P f args w fun e w' => e = .returned u ∧ Q w') (hK : ∀ w', Q w' → K u w') : opw P (callFunc f args) w K := by
  have hrun : (callFunc f args).run P w = .ok (.enter f args) w := by
    unfold callFunc
    simp only [Sem.run_bind, run_program, Result.andThen_ok, hf, hn, hb, Option.isNone_some, Bool.false_eq_true, if_false, Sem.run_pure]
  unfold opw
  rw [hrun]
  refine h.mono (fun e w' ⟨h1, h2⟩ => ?_)
  subst h1
  exact hK w' h2
theorem kByts_ok : ∀ {l : List CV} {bs : List Nat}, kByts l = some bs → ∃ B : List UInt8, bs = xC B ∧ l = rowC (xC B)
  | [], bs, h => by
    have h' : some ([] : List Nat) = some bs := h
    obtain rfl := Option.some.inj h'
    exact ⟨[], rfl, rfl⟩
  | x :: l, bs, h => by
    have h' : kByt x (kByts l) = some bs := h
    unfold kByt at h'
    split at h'
    · rename_i b
      split at h'
      · rename_i hb
        split at h'
        · rename_i r hr
          obtain rfl := Option.some.inj h'
          obtain ⟨B, rfl, rfl⟩ := kByts_ok hr
          have hb : b < 256 := Nat.le_of_ble_eq_true hb
          refine ⟨UInt8.ofNat b :: B, ?_, ?_⟩ <;> simp [xC, rowC, UInt8.toNat_ofNat', Nat.mod_eq_of_lt hb]
        · simp at h'
      · simp at h'
    · simp at h'
theorem bJ.bytes {β : Names} : ∀ {B : List UInt8} {us : List Value}, bJ β (rowC (xC B)) us → us = bs B
  | [], us, h => h
  | x :: B, us, ⟨u, r, h1, h2, h3⟩ => by
    rw [h1, bJ.bytes (B := B) h3, show u = _ from h2.1]; rfl
theorem kSyms_ok {β : Names} : ∀ {l : List CV} {ns : List Int}, kSyms l = some ns → ∀ {us : List Value}, bJ β l us → us = bs (ns.map ob)
  | [], ns, h, us, hu => by
    have h' : some ([] : List Int) = some ns := h
    obtain rfl := Option.some.inj h'
    exact hu
  | x :: l, ns, h, us, hu => by
    have h' : kSym x (kSyms l) = some ns := h
    unfold kSym at h'
    split at h'
    · rename_i s n
      obtain ⟨u, r, rfl, h1, h2⟩ := hu
      have key : ∀ {m : List Int}, kSyms l = some m → IntKind.u8.wrap n = n → u :: r = bs ((n :: m).map ob) := by
        intro m hm hn
        rw [kSyms_ok hm h2, h1.1]
        have hr : 0 ≤ n ∧ n < 256 := by
          have := (lS .u8 n).1 hn
          simpa [IntKind.signed, IntKind.bits] using this
        show Value.int .u8 n :: bs (m.map ob) = bv (ob n) :: bs (m.map ob)
        rw [bv_ob hr]
      split at h'
      · rename_i m hm
        obtain rfl := Option.some.inj h'
        exact key hm (h1.2 rfl)
      · rename_i m hm hq
        obtain rfl := Option.some.inj h'
        exact key hm (gJ hq (by simp))
      · simp at h'
    · simp at h'
theorem symB_rv {β : Names} (A : Nat) : RV β (.agg (symB A)) (.agg (hB A)) := by
  refine ⟨hB A, rfl, ?_⟩
  unfold symB hB
  rw [List.toList_toArray]
  refine bJ.of_get (by simp) (fun i c hc => ?_)
  rw [List.getElem?_map, Option.map_eq_some_iff] at hc
  obtain ⟨j, hj, rfl⟩ := hc
  refine ⟨.int .u8 (byt A j), by rw [List.getElem?_map, hj]; rfl, rfl, fun _ => u8I ?_⟩
  unfold byt; omega
theorem kSumB_ok {l : List CV} {V : Acc} {v : CV} (h : kSumB l V = some v) {β : Names} {args : Array Value} {w : World} (hR : bJ β l args.toList) (hV : HV V β w) :
    ∃ (a : Option Addr) (c : Nat) (B : List UInt8), args = #[.slice a B.length c] ∧ 0 < B.length ∧ B.length + 73 ≤ 140737488351232 ∧ Bs w a c B ∧ RV β v (.agg (hB (shaN B))) := by
  unfold kSumB at h
  split at h
  · rename_i g o n c lo
    split at h
    · rename_i cs e room hg
      split at h
      · rename_i h1 h2 h3 h4
        have h1 := Nat.le_of_ble_eq_true h1
        have h2 : 0 < n := Nat.le_of_ble_eq_true h2
        have h3 := Nat.le_of_ble_eq_true h3
        have h4 : n < 1099511627776 := Nat.le_of_ble_eq_true h4
        obtain ⟨u, r, e1, ⟨a, c', k1, k2, k3, _⟩, e2⟩ := hR
        have e2 : r = [] := e2
        subst e2
        obtain ⟨a', ob', m1, m2, m3, _⟩ := hV.at_ g _ hg
        rw [k1] at m1
        obtain rfl := Option.some.inj m1
        obtain ⟨us, lo', hi', rfl, q1, _, _, q4⟩ := m3
        have hcut : bJ β ((cs.drop o).take n) ((us.toList.drop o).take n) := by
          refine bJ.of_get (by simp only [List.length_take, List.length_drop, Array.length_toList]; omega) (fun i x hx => ?_)
          have hi : i < n := by
            have := (List.getElem?_eq_some_iff.1 hx).1
            simp only [List.length_take] at this; omega
          rw [List.getElem?_take_of_lt hi, List.getElem?_drop] at hx ⊢
          obtain ⟨u, r1, r2⟩ := q4 _ _ hx
          exact ⟨u, by rw [Array.getElem?_toList]; exact r1, r2⟩
        have key : ∀ B : List UInt8, (us.toList.drop o).take n = bs B → RV β v (.agg (hB (shaN B))) → ∃ (a : Option Addr) (c : Nat) (B : List UInt8), args = #[.slice a B.length c] ∧ 0 < B.length ∧ B.length + 73 ≤ 140737488351232 ∧ Bs w a c B ∧ RV β v (.agg (hB (shaN B))) := by
          intro B hB hr
          have hl : B.length = n := by
            have := congrArg List.length hB
            rw [dJ, List.length_take, List.length_drop, Array.length_toList] at this
            omega
          refine ⟨some ⟨a, o, none⟩, c', B, ?_, by omega, by omega, ⟨by omega, by omega, Or.inr ⟨_, rfl, fun i v hv => ?_⟩⟩, hr⟩
          · rw [hl, ← k2]
            exact Array.toList_inj.1 e1
          · have hi : i < n := by
              have := (List.getElem?_eq_some_iff.1 hv).1
              rw [dJ] at this; omega
            rw [← hB, List.getElem?_take_of_lt hi, List.getElem?_drop, Array.getElem?_toList] at hv
            unfold World.cell?
            rw [bY]
            simp only [m2]
            exact hv
        split at h
        · rename_i bs' hb
          obtain rfl := Option.some.inj h
          obtain ⟨B, rfl, hB⟩ := kByts_ok hb
          have hl : B.length = n := by
            have := congrArg List.length hB
            unfold rowC xC at this
            rw [List.length_map, List.length_map, List.length_take, List.length_drop] at this
            omega
          refine key B ?_ (by rw [← hl]; exact kSha_rv B)
          rw [hB] at hcut
          exact hcut.bytes
        · split at h
          · rename_i ns hns
            obtain rfl := Option.some.inj h
            exact key _ (kSyms_ok hns hcut) (symB_rv _)
          · simp at h
      · simp at h
    · simp at h
  · simp at h
theorem isWs_ok : ∀ {l : List CV} {ns : List Nat}, isWs l ns = true → l = ns.map fun n => .int false .u32 (.ofNat n)
  | [], [], _ => rfl
  | [], n :: ns, h => by simp [isWs] at h
  | x :: l, [], h => by simp [isWs] at h
  | x :: l, n :: ns, h => by
    have h' : (match isW x n with | true => isWs l ns | false => false) = true := h
    split at h'
    · rename_i hx
      rw [isWs_ok h']
      unfold isW at hx
      split at hx
      · rw [Nat.eq_of_beq_eq_true hx]; rfl
      · simp at hx
    · simp at h'
theorem kb_of {V : Acc} {β : Names} {w : World} (hG : Gl β) (hV : HV V β w) {g : Nat} (hg : g < 64) {ns : List Nat} {cs : List CV} (hv : V g = some (.ro cs)) (hc : isWs cs ns = true) : Kb w g (ns.map fun n => Value.int .u32 ((n : Nat) : Int)).toArray := by
  intro i v hi
  obtain ⟨a, ob, m1, m2, m3, _⟩ := hV.at_ g _ hv
  rw [hG g hg] at m1
  obtain rfl := Option.some.inj m1
  obtain ⟨us, e, fr, rfl, q4⟩ := m3
  rw [List.getElem?_toArray, List.getElem?_map, Option.map_eq_some_iff] at hi
  obtain ⟨n, hn, rfl⟩ := hi
  have hc' := isWs_ok hc
  have : cs[i]? = some (.int false .u32 (.ofNat n)) := by rw [hc', List.getElem?_map, hn]; rfl
  obtain ⟨u, r1, r2⟩ := q4 _ _ this
  rw [show u = _ from r2.1] at r1
  unfold World.cell?
  simp only [m2]
  exact r1
theorem uZ {x : List CV} {k : Nat → Option CV} {v : CV} (h : kNum x k = some v) {β : Names} {u : Value} (hu : RV β (.agg x) u) : ∃ A, A < M ∧ k A = some v ∧ u = U A := by
  unfold kNum at h
  split at h
  · rename_i a b c d
    split at h
    · rename_i h1 h2 h3 h4
      rw [fO] at h
      have h1 : a < 18446744073709551616 := Nat.le_of_ble_eq_true h1
      have h2 : b < 18446744073709551616 := Nat.le_of_ble_eq_true h2
      have h3 : c < 18446744073709551616 := Nat.le_of_ble_eq_true h3
      have h4 : d < 18446744073709551616 := Nat.le_of_ble_eq_true h4
      refine ⟨_, by rw [lW]; omega, h, ?_⟩
      obtain ⟨us, rfl, hus⟩ := hu
      obtain ⟨u1, r1, e1, q1, u2, r2, e2, q2, u3, r3, e3, q3, u4, r4, e4, q4, e5⟩ := hus
      have e5 : r4 = [] := e5
      have q1 := q1.1
      have q2 := q2.1
      have q3 := q3.1
      have q4 := q4.1
      subst e5 e4 e3 e2 q1 q2 q3 q4
      have e1 : us = #[Value.int .u64 (a : Int), .int .u64 (b : Int), .int .u64 (c : Int), .int .u64 (d : Int)] := Array.toList_inj.1 e1
      unfold U
      rw [e1, wd0, wd1, wd2, wd3]
      have f1 : (((d * 18446744073709551616 + c) * 18446744073709551616 + b) * 18446744073709551616 + a) % 18446744073709551616 = a := by omega
      have f2 : (((d * 18446744073709551616 + c) * 18446744073709551616 + b) * 18446744073709551616 + a) / 18446744073709551616 % 18446744073709551616 = b := by omega
      have f3 : (((d * 18446744073709551616 + c) * 18446744073709551616 + b) * 18446744073709551616 + a) / 340282366920938463463374607431768211456 % 18446744073709551616 = c := by omega
      have f4 : (((d * 18446744073709551616 + c) * 18446744073709551616 + b) * 18446744073709551616 + a) / 6277101735386680763835789423207666416102355444464034512896 % 18446744073709551616 = d := by omega
      rw [f1, f2, f3, f4]
    · simp at h
  · simp at h
theorem kU_rv {β : Names} (A : Nat) : RV β (kU A) (U A) := by
  unfold kU kL64
  simp only [fO]
  refine ⟨_, rfl, ?_⟩
  show bJ β _ [_, _, _, _]
  rw [wd0, wd1, wd2, wd3]
  exact ⟨_, _, rfl, ⟨rfl, nofun⟩, _, _, rfl, ⟨rfl, nofun⟩, _, _, rfl, ⟨rfl, nofun⟩, _, _, rfl, ⟨rfl, nofun⟩, rfl⟩
theorem lD {P : Program} {f : FuncId} {fn : Func} {c : Code} {args : Array Value} {w : World} {β : Names} {v : CV} {u : Value} (hf : P.funcs[f]? = some fn) (hb : fn.body = some c) (hn : (fn.name == "runtime.NumGoroutine") = false)
    (h : Calls P f args w fun e w' => e = .returned u ∧ Below w.heap.size w w') (hv : RV β v u) : opw P (callFunc f args) w (fun u w' => UpN (fun _ => False) w w' ∧ RV β v u) :=
  opw_call hf hb hn h (fun _ hw => ⟨UpN.of_below hw, hv⟩)
theorem kBs_args {l : List CV} {args : Array Value} {β : Names} {a b : CV} (hR : bJ β [a, b] args.toList) : ∃ u v, args = #[u, v] ∧ RV β a u ∧ RV β b v := by
  obtain ⟨u, r, e1, h1, v, r2, e2, h2, e3⟩ := hR
  have e3 : r2 = [] := e3
  subst e3 e2
  exact ⟨u, v, Array.toList_inj.1 e1, h1, h2⟩
theorem kShl_ok {l : List CV} {V : Acc} {v : CV} (h : kShl l V = some v) {β : Names} {args : Array Value} (hR : bJ β l args.toList) :
    ∃ (A : Nat) (n : Int), A < M ∧ args = #[U A, .int .i64 n] ∧ RV β v (U (shlZ A n)) := by
  unfold kShl at h
  split at h
  · rename_i x n
    obtain ⟨u, r, e1, h1, v', r2, e2, h2, e3⟩ := hR
    have e3 : r2 = [] := e3
    have h2 := h2.1
    subst e3 e2 h2
    obtain ⟨A, hA, hk, rfl⟩ := uZ h h1
    refine ⟨A, (n : Int), hA, Array.toList_inj.1 e1, ?_⟩
    unfold shlZ
    rw [if_neg (by omega), Int.toNat_natCast]
    split at hk
    · rw [fO] at hk
      obtain rfl := Option.some.inj hk
      exact kU_rv _
    · rename_i hn
      obtain rfl := Option.some.inj hk
      have hn : 256 ≤ n := by
        rcases Nat.lt_or_ge n 256 with q | q
        · rw [show Nat.blt n 256 = true from Nat.ble_eq_true_of_le q] at hn; simp at hn
        · exact q
      rw [shlN_big A hn]
      exact kU_rv _
  · simp at h
theorem kShr_ok {l : List CV} {V : Acc} {v : CV} (h : kShr l V = some v) {β : Names} {args : Array Value} (hR : bJ β l args.toList) :
    ∃ (A : Nat) (n : Int), A < M ∧ args = #[U A, .int .i64 n] ∧ RV β v (U (shrZ A n)) := by
  unfold kShr at h
  split at h
  · rename_i x n
    obtain ⟨u, r, e1, h1, v', r2, e2, h2, e3⟩ := hR
    have e3 : r2 = [] := e3
    have h2 := h2.1
    subst e3 e2 h2
    obtain ⟨A, hA, hk, rfl⟩ := uZ h h1
    refine ⟨A, (n : Int), hA, Array.toList_inj.1 e1, ?_⟩
    unfold shrZ
    rw [if_neg (by omega), Int.toNat_natCast]
    split at hk
    · rw [fO] at hk
      obtain rfl := Option.some.inj hk
      exact kU_rv _
    · rename_i hn
      obtain rfl := Option.some.inj hk
      have hn : 256 ≤ n := by
        rcases Nat.lt_or_ge n 256 with q | q
        · rw [show Nat.blt n 256 = true from Nat.ble_eq_true_of_le q] at hn; simp at hn
        · exact q
      rw [show A / 2 ^ n = 0 from Nat.div_eq_of_lt (Nat.lt_of_lt_of_le (by rw [lW] at hA; exact hA : A < 2 ^ 256) (Nat.pow_le_pow_right (by decide) hn))]
      exact kU_rv _
  · simp at h
theorem lenN_kern {A : Nat} {k : Nat → Option CV} {v : CV} (h : (match A with
    | 0 => some (CV.int false .i64 (.ofNat 0))
    | Nat.succ p => frc (Nat.log2 (Nat.succ p) + 1) fun y => some (CV.int false .i64 (.ofNat y))) = some v) {β : Names} : RV β v (.int .i64 (wG A)) := by
  cases A with
  | zero => obtain rfl := Option.some.inj h; exact ⟨rfl, nofun⟩
  | succ p =>
    simp only [fO] at h
    obtain rfl := Option.some.inj h
    unfold wG
    rw [if_neg (by omega)]; exact ⟨rfl, nofun⟩
theorem kLen_ok {l : List CV} {V : Acc} {v : CV} (h : kLen l V = some v) {β : Names} {args : Array Value} (hR : bJ β l args.toList) :
    ∃ A : Nat, A < M ∧ args = #[U A] ∧ RV β v (.int .i64 (wG A)) := by
  unfold kLen at h
  split at h
  · rename_i x
    obtain ⟨u, r, e1, h1, e3⟩ := hR
    have e3 : r = [] := e3
    subst e3
    obtain ⟨A, hA, hk, rfl⟩ := uZ h h1
    exact ⟨A, hA, Array.toList_inj.1 e1, lenN_kern (k := fun _ => none) hk⟩
  · simp at h
theorem kLen64_ok {l : List CV} {V : Acc} {v : CV} (h : kLen64 l V = some v) {β : Names} {args : Array Value} (hR : bJ β l args.toList) :
    ∃ x : Nat, x < 18446744073709551616 ∧ args = #[.int .u64 ((x : Nat) : Int)] ∧ RV β v (.int .i64 (wG x)) := by
  unfold kLen64 at h
  split at h
  · rename_i x
    split at h
    · rename_i hx
      obtain ⟨u, r, e1, h1, e3⟩ := hR
      have e3 : r = [] := e3
      have h1 := h1.1
      subst e3 h1
      exact ⟨x, Nat.le_of_ble_eq_true hx, Array.toList_inj.1 e1, lenN_kern (k := fun _ => none) h⟩
    · simp at h
  · simp at h
theorem kDiv_ok {l : List CV} {V : Acc} {v : CV} (h : kDiv l V = some v) {β : Names} {args : Array Value} (hR : bJ β l args.toList) :
    ∃ hi lo b : Nat, hi < M ∧ lo < M ∧ b < M ∧ args = #[U hi, U lo, U b] ∧ RV β v (.tuple #[U (divQ hi lo b), U (divR hi lo b), .bool (decide (hi < b))]) := by
  unfold kDiv at h
  split at h
  · rename_i x y z
    obtain ⟨u1, r1, e1, h1, u2, r2, e2, h2, u3, r3, e3, h3, e4⟩ := hR
    have e4 : r3 = [] := e4
    subst e4 e3 e2
    obtain ⟨hi, k1, h, rfl⟩ := uZ h h1
    obtain ⟨lo, k2, h, rfl⟩ := uZ h h2
    obtain ⟨b, k3, h, rfl⟩ := uZ h h3
    refine ⟨hi, lo, b, k1, k2, k3, Array.toList_inj.1 e1, ?_⟩
    split at h
    · simp at h
    · rename_i hb
      have hb : hi < b := by
        rcases Nat.lt_or_ge hi b with q | q
        · exact q
        · rw [Nat.ble_eq_true_of_le q] at hb; simp at hb
      rw [fO, fO] at h
      obtain rfl := Option.some.inj h
      unfold divQ divR
      rw [if_neg (by omega), if_neg (by omega), decide_eq_true hb]
      exact ⟨_, rfl, _, _, rfl, kU_rv _, _, _, rfl, kU_rv _, _, _, rfl, rfl, rfl⟩
  · simp at h
theorem HV.born {V : Acc} {β : Names} {w w' : World} (h : HV V β w) {H : Tr HO} {n a : Nat} {o : HO} {ob : Obj} (hf : β.ad n = none) (hg : H.get n = some o) (hu : UpN (fun _ => False) w w') (ha : w.heap.size ≤ a) (hw : w'.heap[a]? = some ob) (ho : RO (jQ β n a (iQ ob)) o ob) :
    HV (nS V H n (n + 1) []) (jQ β n a (iQ ob)) w' := by
  have av : ∀ m, nS V H n (n + 1) [] m = if m = n then some o else V m := by
    intro m
    unfold nS
    by_cases hm : m = n
    · subst hm; rw [if_pos (by simp), if_pos rfl, hg]
    · rw [if_neg (by simp; omega), if_neg hm]
  have fpe : ∀ b, β.fp b → w'.heap[b]? = w.heap[b]? := fun b hb => hu.block b (h.fpa b hb).1 (fun q => q)
  refine ⟨fun m x hx => ?_, fun m k b hm hk hma hka => ?_, fun b hb => ⟨h.fp_lt hb (fpe b hb), fun m hm hma => ?_⟩, fun s x hgc w'' hw'' => h.sxf s x hgc w'' (fun b hb => (hw'' b hb).trans (fpe b hb))⟩
  · rw [av] at hx
    by_cases hm : m = n
    · rw [if_pos hm] at hx
      obtain rfl := Option.some.inj hx
      subst hm
      exact ⟨_, ob, dI _ _ _ _, hw, ho, mX _ _ _ _⟩
    · rw [if_neg hm] at hx
      obtain ⟨b, ob', h1, h2, h3, h4⟩ := h.at_ m x hx
      have hlt := (Array.getElem?_eq_some_iff.1 h2).1
      exact ⟨b, ob', by rw [dL _ _ _ hm]; exact h1, by rw [hu.block b hlt (fun q => q)]; exact h2, h3.mono (iK hf), by rw [oH _ _ _ hm]; exact h4⟩
  · rw [av] at hm hk
    by_cases e1 : m = n <;> by_cases e2 : k = n
    · rw [e1, e2]
    · subst e1
      rw [dI] at hma
      rw [dL _ _ _ e2] at hka
      rw [if_neg e2] at hk
      have := h.lt hk hka
      have := Option.some.inj hma
      omega
    · subst e2
      rw [dI] at hka
      rw [dL _ _ _ e1] at hma
      rw [if_neg e1] at hm
      have := h.lt hm hma
      have := Option.some.inj hka
      omega
    · rw [dL _ _ _ e1] at hma
      rw [dL _ _ _ e2] at hka
      rw [if_neg e1] at hm
      rw [if_neg e2] at hk
      exact h.inj m k b hm hk hma hka
  · rw [av] at hm
    by_cases e : m = n
    · subst e
      rw [dI] at hma
      have := Option.some.inj hma
      have := (h.fpa b hb).1
      omega
    · rw [if_neg e] at hm
      rw [dL _ _ _ e] at hma
      exact (h.fpa b hb).2 m hm hma
def stl : CV → CV
  | .int _ k n => .int false k n
  | c => c
def isI : CV → Bool
  | .int _ _ _ => true
  | _ => false
theorem RV.stl {β β' : Names} {c : CV} {u : Value} (hc : isI c = true) (h : RV β c u) : RV β' (stl c) u := by
  cases c <;> simp [isI] at hc
  exact ⟨h.1, nofun⟩
theorem RO.stl {β β' : Names} {cs : List CV} {e : TypeId} {r : Bool} {ob : Obj} (hc : cs.all isI = true) (h : RO β (.cells cs e r) ob) : RO β' (.cells (cs.map stl) e r) ob := by
  obtain ⟨us, lo, hi, rfl, h1, h2, h3, h4⟩ := h
  refine ⟨us, lo, hi, rfl, by rw [List.length_map]; exact h1, fun q => by rw [List.length_map]; exact h2 q, h3, fun i x hx => ?_⟩
  rw [List.getElem?_map, Option.map_eq_some_iff] at hx
  obtain ⟨c, hc', rfl⟩ := hx
  obtain ⟨u, k1, k2⟩ := h4 i c hc'
  exact ⟨u, k1, k2.stl (List.all_eq_true.1 hc c (List.mem_of_getElem? hc'))⟩
def ct0 : bQ := fun _ => none
theorem ct0_ok (P : Program) : gV P ct0 := fun _ _ h => by simp [ct0] at h
def gl0 : Names := ⟨fun g => if g < 64 then some g else none, fun _ => 0, fun _ _ => False, fun _ => False⟩
theorem gl0_gl : Gl gl0 := fun g h => by unfold gl0; simp [h]
theorem row_ok {P : Program} (hm : P.follows .mixedOrders = true) (hN : ∀ (f : FuncId) (fn : Func), P.funcs[f]? = some fn → fn.body ≠ none → (fn.name == "runtime.NumGoroutine") = false) {L d : Nat} {f : FuncId} {l : List CV} {n : Nat} {cs : List CV} {e : TypeId} {r : Bool} {H0 : Tr HO}
    (hrun : (kD P ct0 L d f l .e 64 []).val = some ⟨.sl 64 0 n n 0, H0, 65, []⟩) (hH : H0.get 64 = some (.cells cs e r)) (hI : cs.all isI = true) {V : Acc} {H : Tr HO} {nx : Nat} {β : Names} {args : Array Value} (hl : bJ gl0 l args.toList) :
    OpS P (callFunc f args) V β nx (.sl nx 0 n n 0) (H.set nx (.cells (cs.map stl) e r)) (nx + 1) [] := by
  intro w hV hf
  have hok := mZ (ct0_ok P) hm hN (L := L) d [] .e 64 f l _ hrun (by show 64 ≤ 65; omega) (fun _ h => by simp at h) (fun m h => by simp [acc, Tr.get_e] at h)
  have hop := hok.2 gl0 args gl0_gl hl w ⟨fun m o h => by simp [acc, Tr.get_e] at h, fun m k a h => by simp [acc, Tr.get_e] at h, fun _ h => h.elim, fun _ _ h => h.elim⟩ (fun m h1 h2 => by unfold gl0; simp; omega)
  refine fB hop (fun u w' ⟨β', htr, hu, hV'⟩ => ?_)
  obtain ⟨a, c', k1, rfl, k2, k3, _⟩ := hu
  obtain rfl := k3 rfl
  obtain ⟨a', ob, m1, m2, m3, _⟩ := hV'.at_ 64 (.cells cs e r) (by unfold nS; rw [if_pos (by simp)]; exact hH)
  rw [k1] at m1
  obtain rfl := Option.some.inj m1
  have hu : UpN (fun _ => False) w w' := htr.upd.mono (fun _ q => by obtain ⟨p, hp, _⟩ := q; simp at hp)
  have ha : w.heap.size ≤ a := by
    rcases htr.born 64 a (by omega) (by show 64 < 65; omega) k1 with q | q
    · exact q
    · obtain ⟨p, hp, _⟩ := q; simp at hp
  have hn : β.ad nx = none := hf nx (Nat.le_refl _) (by omega)
  refine ⟨jQ β nx a (iQ ob), ⟨fun m hm' => ⟨dL _ _ _ (by omega), oH _ _ _ (by omega)⟩, fun _ _ h => h, fun _ h => h, fun _ h => Or.inl h, by omega, hu.mono (fun _ q => q.elim), fun m b q1 q2 q3 => ?_⟩, ⟨a, _, dI _ _ _ _, rfl, k2, fun _ => rfl, fun q => absurd rfl q⟩, hV.born hn (by rw [Tr.get_set, if_pos rfl]) hu ha m2 (m3.stl hI)⟩
  obtain rfl : m = nx := by omega
  rw [dI] at q3
  exact Or.inl (by rw [← Option.some.inj q3]; exact ha)
def symL (n : Nat) (v : Nat) : List CV := (List.range n).map fun i => .int true .u8 (dP .u8 ((Int.ofNat v).fdiv ((2 ^ (min (8 * i) 64) : Nat) : Int)))
theorem kLow_eq : ∀ (n v : Nat), kLow n v = (List.range n).map fun i => .int false .u8 (.ofNat (v / 256 ^ i % 256))
  | 0, _ => rfl
  | n + 1, v => by
    show frc (v % 256) (fun b => frc (v / 256) fun r => CV.int false .u8 (.ofNat b) :: kLow n r) = _
    rw [fO, fO, kLow_eq n, List.range_succ_eq_map, List.map_cons, List.map_map]
    simp only [Nat.pow_zero, Nat.div_one]
    congr 1
    apply List.map_congr_left
    intro i _
    simp only [Function.comp]
    rw [Nat.div_div_eq_div_mul, show 256 * 256 ^ i = 256 ^ Nat.succ i by rw [Nat.pow_succ, Nat.mul_comm]]
theorem symL_stl {n v : Nat} (h : n ≤ 8) : (symL n v).map stl = kLow n v := by
  rw [kLow_eq]
  unfold symL
  rw [List.map_map]
  apply List.map_congr_left
  intro i hi
  have hi := List.mem_range.1 hi
  simp only [Function.comp, stl]
  rw [show min (8 * i) 64 = 8 * i by omega, show (2 : Nat) ^ (8 * i) = 256 ^ i by rw [Nat.pow_mul]]
  have : (Int.ofNat v).fdiv ((256 ^ i : Nat) : Int) = Int.ofNat (v / 256 ^ i) := by
    show ((v : Nat) : Int).fdiv ((256 ^ i : Nat) : Int) = _
    rw [Int.fdiv_eq_ediv_of_nonneg _ (Int.natCast_nonneg _)]
    rfl
  rw [this]
  rfl
theorem symL_int (n v : Nat) : (symL n v).all isI = true := by simp [symL, isI]
noncomputable def litH (n v : Nat) : Tr HO := Tr.e.set 64 (.cells (symL n v) 5 false)
theorem rlit1 (v : Nat) : (kD Tryz.prog ct0 100000 2 251 [.int true .u64 (.ofNat v), .int false .i64 (.ofNat 1)] .e 64 []).val = some ⟨.sl 64 0 1 1 0, litH 1 v, 65, []⟩ := by kernel_rfl
theorem rlit2 (v : Nat) : (kD Tryz.prog ct0 100000 2 251 [.int true .u64 (.ofNat v), .int false .i64 (.ofNat 2)] .e 64 []).val = some ⟨.sl 64 0 2 2 0, litH 2 v, 65, []⟩ := by kernel_rfl
theorem rlit4 (v : Nat) : (kD Tryz.prog ct0 100000 2 251 [.int true .u64 (.ofNat v), .int false .i64 (.ofNat 4)] .e 64 []).val = some ⟨.sl 64 0 4 4 0, litH 4 v, 65, []⟩ := by kernel_rfl
theorem rlit8 (v : Nat) : (kD Tryz.prog ct0 100000 2 251 [.int true .u64 (.ofNat v), .int false .i64 (.ofNat 8)] .e 64 []).val = some ⟨.sl 64 0 8 8 0, litH 8 v, 65, []⟩ := by kernel_rfl
theorem plit1 (v : Nat) : (kD Tryz.prog ct0 100000 2 161 [.int true .u64 (.ofNat v), .int false .i64 (.ofNat 1)] .e 64 []).val = some ⟨.sl 64 0 1 1 0, litH 1 v, 65, []⟩ := by kernel_rfl
theorem plit2 (v : Nat) : (kD Tryz.prog ct0 100000 2 161 [.int true .u64 (.ofNat v), .int false .i64 (.ofNat 2)] .e 64 []).val = some ⟨.sl 64 0 2 2 0, litH 2 v, 65, []⟩ := by kernel_rfl
theorem plit4 (v : Nat) : (kD Tryz.prog ct0 100000 2 161 [.int true .u64 (.ofNat v), .int false .i64 (.ofNat 4)] .e 64 []).val = some ⟨.sl 64 0 4 4 0, litH 4 v, 65, []⟩ := by kernel_rfl
theorem plit8 (v : Nat) : (kD Tryz.prog ct0 100000 2 161 [.int true .u64 (.ofNat v), .int false .i64 (.ofNat 8)] .e 64 []).val = some ⟨.sl 64 0 8 8 0, litH 8 v, 65, []⟩ := by kernel_rfl
theorem mixed : Tryz.prog.follows .mixedOrders = true := by kernel_rfl
theorem noNG0 : (Tryz.prog.funcs.toList.all fun fn => fn.body.isNone || !(fn.name == "runtime.NumGoroutine")) = true := by kernel_rfl
theorem noNG (f : FuncId) (fn : Func) (h : Tryz.prog.funcs[f]? = some fn) (hb : fn.body ≠ none) : (fn.name == "runtime.NumGoroutine") = false := by
  have := List.all_eq_true.1 noNG0 fn (by rw [← Array.getElem?_toList] at h; exact List.mem_of_getElem? h)
  cases hq : fn.body with
  | none => exact absurd hq hb
  | some c => rw [hq] at this; simpa using this
set_option maxRecDepth 20000 in
theorem lit_ok {f : FuncId} (hrun : ∀ n v, (n = 1 ∨ n = 2) ∨ n = 4 ∨ n = 8 → (kD Tryz.prog ct0 100000 2 f [.int true .u64 (.ofNat v), .int false .i64 (.ofNat n)] .e 64 []).val = some ⟨.sl 64 0 n n 0, litH n v, 65, []⟩)
    {ban : List (Nat × Nat)} {H : Tr HO} {nx : Nat} {l : List CV} {out : Out} (h : (kLit l (acc ban H) H nx).val = some out) :
    nR (acc ban H) H nx out ∧ ∀ (β : Names) (args : Array Value), Gl β → bJ β l args.toList → OpS Tryz.prog (callFunc f args) (acc ban H) β nx out.v out.H out.nx out.puts := by
  unfold kLit at h
  split at h
  · rename_i v n
    split at h
    · rename_i hn
      rw [fO, fO] at h
      obtain rfl := Option.some.inj h
      rw [Bool.and_eq_true] at hn
      have hv : v < 18446744073709551616 := Nat.le_of_ble_eq_true hn.2
      have hn : (n = 1 ∨ n = 2) ∨ n = 4 ∨ n = 8 := by simpa using hn.1
      refine ⟨⟨Nat.le_succ nx, fun m hm _ => ?_, fun p hp => by simp at hp⟩, fun β args _ hR => ?_⟩
      · show (H.set nx _).get m = _
        rw [Tr.get_set, if_neg (by simp only at hm; omega)]
      · have hR' : bJ gl0 [.int true .u64 (.ofNat v), .int false .i64 (.ofNat n)] args.toList := by
          obtain ⟨u, r, e1, h1, u2, r2, e2, h2, e3⟩ := hR
          exact ⟨u, r, e1, ⟨h1.1, fun _ => by show IntKind.u64.wrap ((v : Nat) : Int) = ((v : Nat) : Int); exact u64N hv⟩, u2, r2, e2, h2, e3⟩
        have hg : (litH n v).get 64 = some (.cells (symL n v) 5 false) := by unfold litH; rw [Tr.get_set, if_pos rfl]
        have hq := row_ok (L := 100000) (d := 2) (f := f) mixed noNG (hrun n v hn) hg (symL_int n v) (V := acc ban H) (H := H) (nx := nx) (β := β) hR'
        rw [symL_stl (by omega)] at hq
        exact hq
    · simp [R.val] at h
  · simp [R.val] at h
theorem rlit (n v : Nat) (h : (n = 1 ∨ n = 2) ∨ n = 4 ∨ n = 8) : (kD Tryz.prog ct0 100000 2 251 [.int true .u64 (.ofNat v), .int false .i64 (.ofNat n)] .e 64 []).val = some ⟨.sl 64 0 n n 0, litH n v, 65, []⟩ := by
  rcases h with (rfl | rfl) | rfl | rfl
  · exact rlit1 v
  · exact rlit2 v
  · exact rlit4 v
  · exact rlit8 v
theorem plit (n v : Nat) (h : (n = 1 ∨ n = 2) ∨ n = 4 ∨ n = 8) : (kD Tryz.prog ct0 100000 2 161 [.int true .u64 (.ofNat v), .int false .i64 (.ofNat n)] .e 64 []).val = some ⟨.sl 64 0 n n 0, litH n v, 65, []⟩ := by
  rcases h with (rfl | rfl) | rfl | rfl
  · exact plit1 v
  · exact plit2 v
  · exact plit4 v
  · exact plit8 v
set_option maxRecDepth 20000
noncomputable def aCT : bQ := fun f => match Nat.beq f 100 with
  | true => some (plC (kSumP 1 0))
  | false => match Nat.beq f 198 with
    | true => some (plC kSumB)
    | false => match Nat.beq f 210 with
      | true => some (plC kShl)
      | false => match Nat.beq f 95 with
        | true => some (plC kShr)
        | false => match Nat.beq f 209 with
          | true => some (plC kLen)
          | false => match Nat.beq f 207 with
            | true => some (plC kDiv)
            | false => match Nat.beq f 110 with
              | true => some (plC kDiv)
              | false => match Nat.beq f 158 with
                | true => some (plC kLen64)
                | false => match Nat.beq f 162 with
                  | true => some (plC kAdd64)
                  | false => match Nat.beq f 251 with
                    | true => some kLit
                    | false => match Nat.beq f 161 with
                      | true => some kLit
                      | false => none
def w32 (l : List Nat) : List CV := l.map fun n => .int false .u32 (.ofNat n)
noncomputable def aH : Tr HO := (Tr.e.set 1 (.ro (w32 kL))).set 0 (.ro (w32 kI8))
def okB (r : R Out) : Bool := match r with
  | .ok ⟨.bool false true, _, n, []⟩ => Nat.ble 64 n
  | _ => false
theorem calls_eq {P : Program} {f : FuncId} {args : Array Value} {w : World} {u : Value} (h : Calls P f args w fun e w' => e = .returned u ∧ w = w') : Calls P f args w fun e w' => e = .returned u ∧ Below w.heap.size w w' :=
  h.mono fun e w' ⟨h1, h2⟩ => ⟨h1, h2 ▸ Below.refl _ _⟩
theorem kAdd64_ok {l : List CV} {V : Acc} {v : CV} (h : kAdd64 l V = some v) {β : Names} {args : Array Value} (hR : bJ β l args.toList) (w : World) : opw Tryz.prog (callFunc 162 args) w (fun u w' => UpN (fun _ => False) w w' ∧ RV β v u) := by
  unfold kAdd64 at h
  split at h
  · rename_i x y c
    split at h
    · rename_i h1 h2 h3
      have h1 : x < 18446744073709551616 := Nat.le_of_ble_eq_true h1
      have h2 : y < 18446744073709551616 := Nat.le_of_ble_eq_true h2
      have h3 : c < 2 := Nat.le_of_ble_eq_true h3
      rw [fO, fO] at h
      obtain rfl := Option.some.inj h
      obtain ⟨u1, r1, e1, q1, u2, r2, e2, q2, u3, r3, e3, q3, e4⟩ := hR
      have e4 : r3 = [] := e4
      have q1 := q1.1
      have q2 := q2.1
      have q3 := q3.1
      subst e4 e3 e2 q1 q2 q3
      have ea : args = #[.int .u64 (x : Int), .int .u64 (y : Int), .int .u64 (c : Int)] := Array.toList_inj.1 e1
      rw [ea]
      refine dZ (add64 (x : Int) (y : Int) (c : Int) (by unfold Word; omega) (by unfold Word; omega) (by unfold vN; omega) w) ⟨UpN.refl _ _, _, rfl, _, _, rfl, ⟨?_, nofun⟩, _, _, rfl, ⟨?_, nofun⟩, rfl⟩
      · rfl
      · have e : bV (x : Int) (y : Int) (c : Int) = (((x + y + c) / 18446744073709551616 : Nat) : Int) := by unfold bV; split <;> omega
        exact congrArg (Value.int .u64) e
    · simp at h
  · simp at h
theorem oG {f n : Nat} (h : Nat.beq f n = true) : f = n := Nat.eq_of_beq_eq_true h
theorem kSumP_ok {l : List CV} {V : Acc} {v : CV} (h : kSumP 1 0 l V = some v) {β : Names} {args : Array Value} {w : World} (hG : Gl β) (hR : bJ β l args.toList) (hV : HV V β w) : opw Tryz.prog (callFunc 100 args) w (fun u w' => UpN (fun _ => False) w w' ∧ RV β v u) := by
  unfold kSumP at h
  split at h
  · rename_i ck ci hk hi
    generalize h1 : isWs ck kL = b1 at h
    generalize h2 : isWs ci kI8 = b2 at h
    cases b1 with
    | false => simp at h
    | true =>
      cases b2 with
      | false => simp at h
      | true =>
        obtain ⟨a, c, B, rfl, h0, hl, hB, hr⟩ := kSumB_ok h hR hV
        have f1 : KbK w := kb_of hG hV (by decide) hk h1
        have f2 : KbI w := kb_of hG hV (by decide) hi h2
        have f3 := sum_any a c B h0 hl w hB f1 f2
        exact lD Tryz.func100 rfl (by kernel_rfl) f3 hr
  · simp at h
theorem aCT_ok : gV Tryz.prog aCT := by
  intro f s hs ban H nx l out h _ _ _
  unfold aCT at hs
  split at hs
  · rename_i hf
    obtain rfl := Option.some.inj hs
    obtain rfl := oG hf
    refine rC (fun l V v hv β args w hG hR hV => ?_) h
    exact kSumP_ok hv hG hR hV
  · split at hs
    · rename_i hf
      obtain rfl := Option.some.inj hs
      obtain rfl := oG hf
      refine rC (fun l V v hv β args w hG hR hV => ?_) h
      obtain ⟨a, c, B, rfl, h0, hl, hB, hr⟩ := kSumB_ok hv hR hV
      exact lD Tryz.func198 rfl (by kernel_rfl) (rsum_any a c B h0 hl w hB) hr
    · split at hs
      · rename_i hf
        obtain rfl := Option.some.inj hs
        obtain rfl := oG hf
        refine rC (fun l V v hv β args w hG hR hV => ?_) h
        obtain ⟨A, n, hA, rfl, hr⟩ := kShl_ok hv hR
        exact lD Tryz.func210 rfl (by kernel_rfl) (rshl_any A n w hA) hr
      · split at hs
        · rename_i hf
          obtain rfl := Option.some.inj hs
          obtain rfl := oG hf
          refine rC (fun l V v hv β args w hG hR hV => ?_) h
          obtain ⟨A, n, hA, rfl, hr⟩ := kShr_ok hv hR
          exact lD Tryz.func95 rfl (by kernel_rfl) (yR A n w hA) hr
        · split at hs
          · rename_i hf
            obtain rfl := Option.some.inj hs
            obtain rfl := oG hf
            refine rC (fun l V v hv β args w hG hR hV => ?_) h
            obtain ⟨A, hA, rfl, hr⟩ := kLen_ok hv hR
            exact lD Tryz.func209 rfl (by kernel_rfl) (rlen_any A w hA) hr
          · split at hs
            · rename_i hf
              obtain rfl := Option.some.inj hs
              obtain rfl := oG hf
              refine rC (fun l V v hv β args w hG hR hV => ?_) h
              obtain ⟨hi, lo, b, h1, h2, h3, rfl, hr⟩ := kDiv_ok hv hR
              exact lD Tryz.func207 rfl (by kernel_rfl) (rdiv_any hi lo b w h1 h2 h3) hr
            · split at hs
              · rename_i hf
                obtain rfl := Option.some.inj hs
                obtain rfl := oG hf
                refine rC (fun l V v hv β args w hG hR hV => ?_) h
                obtain ⟨hi, lo, b, h1, h2, h3, rfl, hr⟩ := kDiv_ok hv hR
                exact lD Tryz.func110 rfl (by kernel_rfl) (div_any hi lo b w h1 h2 h3) hr
              · split at hs
                · rename_i hf
                  obtain rfl := Option.some.inj hs
                  obtain rfl := oG hf
                  refine rC (fun l V v hv β args w hG hR hV => ?_) h
                  obtain ⟨x, hx, rfl, hr⟩ := kLen64_ok hv hR
                  exact lD Tryz.func158 rfl (by kernel_rfl) (calls_eq (len64_any (x : Int) w (by unfold Word; omega))) hr
                · split at hs
                  · rename_i hf
                    obtain rfl := Option.some.inj hs
                    obtain rfl := oG hf
                    refine rC (fun l V v hv β args w hG hR hV => ?_) h
                    exact kAdd64_ok hv hR w
                  · split at hs
                    · rename_i hf
                      obtain rfl := Option.some.inj hs
                      obtain rfl := oG hf
                      exact lit_ok rlit h
                    · split at hs
                      · rename_i hf
                        obtain rfl := Option.some.inj hs
                        obtain rfl := oG hf
                        exact lit_ok plit h
                      · simp at hs
theorem ro_of {w : World} {β : Names} {g : Nat} {ns : List Nat} (h0 : ns ≠ []) (h : Kb w g (ns.map fun n => Value.int .u32 ((n : Nat) : Int)).toArray) : ∃ ob, w.heap[g]? = some ob ∧ RO β (.ro (w32 ns)) ob := by
  have hc : ∀ (i n : Nat), ns[i]? = some n → w.cell? ⟨g, i, none⟩ = some (.int .u32 (n : Int)) := fun i n hn => h i _ (by rw [List.getElem?_toArray, List.getElem?_map, hn]; rfl)
  obtain ⟨n0, r, rfl⟩ := List.exists_cons_of_ne_nil h0
  have h1 := hc 0 n0 rfl
  unfold World.cell? at h1
  split at h1
  · rename_i cs e fr hb
    refine ⟨_, hb, cs, e, fr, rfl, fun i x hx => ?_⟩
    unfold w32 at hx
    rw [List.getElem?_map, Option.map_eq_some_iff] at hx
    obtain ⟨n, hn, rfl⟩ := hx
    have h2 := hc i n hn
    unfold World.cell? at h2
    simp only [hb] at h2
    exact ⟨_, by simpa using h2, rfl, nofun⟩
  · simp at h1
def glW (w : World) : Names := ⟨fun g => if g < 64 then some g else none, fun g => match w.heap[g]? with
  | some o => iQ o
  | none => 0, fun _ _ => False, fun _ => False⟩
theorem calls_of_opw {P : Program} {f : FuncId} {fn : Func} {c : Code} {args : Array Value} {w : World} {K : Value → World → Prop} (hf : P.funcs[f]? = some fn) (hb : fn.body = some c) (hn : (fn.name == "runtime.NumGoroutine") = false) (h : opw P (callFunc f args) w K) : Calls P f args w fun e w' => ∃ u, e = .returned u ∧ K u w' := by
  have hrun : (callFunc f args).run P w = .ok (.enter f args) w := by
    unfold callFunc
    simp only [Sem.run_bind, run_program, Result.andThen_ok, hf, hn, hb, Option.isNone_some, Bool.false_eq_true, if_false, Sem.run_pure]
  unfold opw at h
  rw [hrun] at h
  refine h.mono (fun e w' h1 => ?_)
  split at h1
  · exact ⟨_, rfl, h1⟩
  · exact h1.elim
theorem UpN.below {w w' : World} (h : UpN (fun _ => False) w w') : Below w.heap.size w w' := ⟨h.os, h.tape, h.output, h.size, fun k hk => h.block k hk (fun q => q)⟩
def bM (P : Program) (f : FuncId) (s : List CV → Acc → R CV) : Prop :=
  ∀ (l : List CV) (V : Acc) (v : CV), (s l V).val = some v → ∀ (β : Names) (args : Array Value) (w : World) (nx : Nat), Gl β → bJ β l args.toList → HV V β w →
    opw P (callFunc f args) w (fun u w' => ∃ β', pK β β' nx nx [] w w' ∧ RV β' v u ∧ HV V β' w')
def plZ (s : List CV → Acc → R CV) (l : List CV) (V : Acc) (H : Tr HO) (nx : Nat) : R Out := (s l V).bind fun v => .ok ⟨v, H, nx, []⟩
def bT (CT : bQ) (f : FuncId) (s : List CV → Acc → R CV) : bQ := fun g => match Nat.beq g f with
  | true => some (plZ s)
  | false => CT g
theorem aG {P : Program} {CT : bQ} (hT : gV P CT) {f : FuncId} {s : List CV → Acc → R CV} (hs : bM P f s) : gV P (bT CT f s) := by
  intro g t ht ban H nx l out h hle hb hd
  unfold bT at ht
  split at ht
  · rename_i hg
    obtain rfl := Nat.eq_of_beq_eq_true hg
    obtain rfl := Option.some.inj ht
    obtain ⟨v, h1, h2⟩ := R.bind_some h
    obtain rfl := Option.some.inj h2
    refine ⟨dS, fun β args hG hR w hV hf => ?_⟩
    refine fB (hs l _ v h1 β args w nx hG hR hV) (fun u w' ⟨β', k1, k2, k3⟩ => ⟨β', k1, k2, ?_⟩)
    rw [mJ]; exact k3
  · exact hT g t ht ban H nx l out h hle hb hd
theorem wE {P : Program} {f : FuncId} {s : List CV → Acc → R CV} (hs : ∀ (l : List CV) (V : Acc) (v : CV), (s l V).val = some v → ∀ (β : Names) (args : Array Value) (w : World), Gl β → bJ β l args.toList → HV V β w → opw P (callFunc f args) w (fun u w' => UpN (fun _ => False) w w' ∧ RV β v u)) : bM P f s := by
  intro l V v h β args w nx hG hR hV
  refine fB (hs l V v h β args w hG hR hV) (fun u w' ⟨k1, k2⟩ => ⟨β, ⟨fun _ _ => ⟨rfl, rfl⟩, fun _ _ h => h, fun _ h => h, fun _ h => Or.inl h, Nat.le_refl _, k1.mono (fun _ q => q.elim), fun m a h1 h2 => by omega⟩, k2, ?_⟩)
  exact hV.same (fun n a hn ha => k1.block a (hV.lt hn ha) (fun q => q)) (fun a ha => k1.block a (hV.fpa a ha).1 (fun q => q))
theorem isWs_eq : ∀ {l : List CV} {ns : List Nat}, isWs l ns = true → l = w32 ns
  | [], [], _ => rfl
  | [], _ :: _, h => by
    have h' : false = true := h
    simp at h'
  | _ :: _, [], h => by
    have h' : false = true := h
    simp at h'
  | x :: l, n :: ns, h => by
    have h' : (match isW x n with
      | true => isWs l ns
      | false => false) = true := h
    split at h'
    · rename_i hx
      unfold isW at hx
      split at hx
      · rename_i m
        obtain rfl := Nat.eq_of_beq_eq_true hx
        rw [isWs_eq h']; rfl
      · simp at hx
    · simp at h'
noncomputable def pJ (V : Acc) : Bool := match V 1, V 0 with
  | some (.ro ck), some (.ro ci) => match isWs ck kL with
    | true => isWs ci kI8
    | false => false
  | _, _ => false
theorem tabB_ok {V : Acc} (h : pJ V = true) : ∀ n o, aH.get n = some o → n < 64 ∧ V n = some o := by
  unfold pJ at h
  split at h
  · rename_i ck ci h1 h0
    split at h
    · rename_i hk
      intro n o ho
      unfold aH at ho
      rw [Tr.get_set, Tr.get_set, Tr.get_e] at ho
      by_cases e0 : 0 = n
      · rw [if_pos e0] at ho
        subst e0
        exact ⟨by omega, by rw [h0, isWs_eq h]; exact ho⟩
      · rw [if_neg e0] at ho
        by_cases e1 : 1 = n
        · rw [if_pos e1] at ho
          subst e1
          exact ⟨by omega, by rw [h1, isWs_eq hk]; exact ho⟩
        · rw [if_neg e1] at ho; simp at ho
    · simp at h
  · simp at h
def brO (c : Cn) {α : Type} (r : R α) : R α := match c with
  | none => r
  | some b => .br b r .no
theorem yJ {c : Cn} {α : Type} {r : R α} {a : α} (h : (brO c r).val = some a) : c.ok ∧ r.val = some a := by
  cases c with
  | none => exact ⟨rfl, h⟩
  | some b =>
    cases b with
    | true => exact ⟨rfl, h⟩
    | false => simp [brO, R.val] at h
noncomputable def frzO (out : Out) : R CV := match out.puts, Nat.ble 64 out.nx, frz out.H 9 out.v with
  | [], true, some (b, v) => brO b (.ok v)
  | _, _, _ => .no
noncomputable def hpT (V : Acc) : Tr HO := match pJ V with
  | true => aH
  | false => .e
noncomputable def purR (P : Program) (CT : bQ) (L d : Nat) (f : FuncId) (l : List CV) (V : Acc) : R CV := match allC (clo 9) l with
  | true => (kD P CT L d f l (hpT V) 64 []).bind frzO
  | false => .no
theorem aH_dom : ∀ n, acc [] aH n ≠ none → n < 64 := by
  intro n hn
  show n < 64
  have hn' : aH.get n ≠ none := hn
  unfold aH at hn'
  rw [Tr.get_set, Tr.get_set, Tr.get_e] at hn'
  by_cases e0 : 0 = n
  · omega
  · by_cases e1 : 1 = n
    · omega
    · rw [if_neg e0, if_neg e1] at hn'; simp at hn'
theorem hpT_ok (V : Acc) : ∀ n o, (hpT V).get n = some o → n < 64 ∧ V n = some o := by
  unfold hpT
  split
  · rename_i h; exact tabB_ok h
  · intro n o h; rw [Tr.get_e] at h; simp at h
theorem hpT_dom (V : Acc) : ∀ n, acc [] (hpT V) n ≠ none → n < 64 := fun n hn => by
  obtain ⟨o, ho⟩ := Option.ne_none_iff_exists'.1 (show (hpT V).get n ≠ none from hn)
  exact (hpT_ok V n o ho).1
theorem hpT_ro (V : Acc) {n : Nat} {o : HO} (h : (hpT V).get n = some o) : ∃ ns, o = .ro (w32 ns) := by
  unfold hpT at h
  split at h
  · unfold aH at h
    rw [Tr.get_set, Tr.get_set, Tr.get_e] at h
    by_cases e0 : 0 = n
    · rw [if_pos e0] at h; exact ⟨_, (Option.some.inj h).symm⟩
    · rw [if_neg e0] at h
      by_cases e1 : 1 = n
      · rw [if_pos e1] at h; exact ⟨_, (Option.some.inj h).symm⟩
      · rw [if_neg e1] at h; simp at h
  · rw [Tr.get_e] at h; simp at h
theorem purR_ok {P : Program} {CT : bQ} (hT : gV P CT) (hm : P.follows .mixedOrders = true) (hN : ∀ (f : FuncId) (fn : Func), P.funcs[f]? = some fn → fn.body ≠ none → (fn.name == "runtime.NumGoroutine") = false) {L d : Nat} {f : FuncId} (hct : CT f = none) : bM P f (purR P CT L d f) := by
  intro l V v h β args w nx hG hR hV
  unfold purR at h
  split at h
  · rename_i hcl
    · obtain ⟨out, h1, h2⟩ := R.bind_some h
      unfold frzO at h2
      split at h2
      · rename_i b v' hp hle hf
        obtain ⟨hb, h3⟩ := yJ h2
        obtain rfl := Option.some.inj h3
        have hle := dK hle
        have hT' := hpT_ok V
        have hok := mZ hT hm hN (L := L) d [] (hpT V) 64 f l out (by unfold callK; rw [hct]; exact h1) hle (fun _ h => by simp at h) (hpT_dom V)
        have hG0 : Gl (base0 β) := fun g hg => by unfold base0; simp only; rw [if_pos hg]; exact hG g hg
        have hR0 : bJ (base0 β) l args.toList := bJ.sxs (fun c v hc h => RV.sxs (β := β) (β' := base0 β) (fun _ _ h => h) 9 c v hc h) hcl hR
        have sub0 : ∀ {o : HO} {n : Nat} {ob : Obj}, (hpT V).get n = some o → RO β o ob → RO (base0 β) o ob := by
          rintro o n ob ho hr
          obtain ⟨ns, rfl⟩ := hpT_ro V ho
          obtain ⟨cs, e, fr, h1, h2⟩ := hr
          refine ⟨cs, e, fr, h1, fun i x hx => ?_⟩
          obtain ⟨u, k1, k2⟩ := h2 i x hx
          unfold w32 at hx
          rw [List.getElem?_map, Option.map_eq_some_iff] at hx
          obtain ⟨n, _, rfl⟩ := hx
          exact ⟨u, k1, k2⟩
        have hV0 : HV (hpT V).get (base0 β) w := by
          refine ⟨fun n o ho => ?_, fun n m a hn hm hna hma => ?_, fun a ha => ⟨(hV.fpa a ha).1, fun n hn hna => ?_⟩, hV.sxf⟩
          · obtain ⟨hn, hv⟩ := hT' n o ho
            obtain ⟨a, ob, k1, k2, k3, k4⟩ := hV.at_ n o hv
            exact ⟨a, ob, by unfold base0; simp only; rw [if_pos hn]; exact k1, k2, sub0 ho k3, k4⟩
          · obtain ⟨o1, q1⟩ := Option.ne_none_iff_exists'.1 hn
            obtain ⟨o2, q2⟩ := Option.ne_none_iff_exists'.1 hm
            obtain ⟨l1, v1⟩ := hT' n o1 q1
            obtain ⟨l2, v2⟩ := hT' m o2 q2
            unfold base0 at hna hma
            simp only at hna hma
            rw [if_pos l1] at hna
            rw [if_pos l2] at hma
            exact hV.inj n m a (by rw [v1]; simp) (by rw [v2]; simp) hna hma
          · obtain ⟨o1, q1⟩ := Option.ne_none_iff_exists'.1 hn
            obtain ⟨l1, v1⟩ := hT' n o1 q1
            unfold base0 at hna
            simp only at hna
            rw [if_pos l1] at hna
            exact (hV.fpa a ha).2 n (by rw [v1]; simp) hna
        have hop := hok.2 (base0 β) args hG0 hR0 w hV0 (fun n h1 _ => by unfold base0; simp only; rw [if_neg (by omega)])
        refine fB hop (fun u w' ⟨β', k1, k2, k3⟩ => ?_)
        rw [hp] at k1 k3
        have hkeep := hok.1.keep
        rw [hp] at hkeep
        have := after0 (β := β) (V := V) (H := out.H) (n1 := out.nx) (H0 := hpT V) (nx := nx) (fun g hg hn => by
          have e : out.H.get g = (hpT V).get g := hkeep g (by omega) (by simp)
          rw [e] at hn
          exact ⟨hn, hpT_dom V g hn⟩) hV k1 k3 hf hb k2
        exact ⟨_, this⟩
      · simp [R.val] at h2
  · simp [R.val] at h
def pkA {α : Type} (b : Bool) (x y : α) : α := match b with
  | true => x
  | false => y
noncomputable def mrgL (f : CV → CV → Option CV) (l : List CV) : List CV → Option (List CV) := List.rec (fun m => match m with
  | [] => some []
  | _ :: _ => none) (fun x _ ih m => match m with
  | [] => none
  | y :: m => match f x y with
    | some z => match ih m with
      | some r => some (z :: r)
      | none => none
    | none => none) l
def eqI (m n : Int) : Bool := match m, n with
  | .ofNat a, .ofNat b => Nat.beq a b
  | .negSucc a, .negSucc b => Nat.beq a b
  | _, _ => false
theorem eqI_ok {m n : Int} (h : eqI m n = true) : m = n := by
  unfold eqI at h
  split at h
  · rw [Nat.eq_of_beq_eq_true h]
  · rw [Nat.eq_of_beq_eq_true h]
  · simp at h
def mrgI (b s s' : Bool) (k : IntKind) (m n : Int) : Option CV := match s || s' with
  | true => match wX s k m && wX s' k n with
    | true => some (.int true k (pkA b m n))
    | false => none
  | false => match eqI m n with
    | true => some (.int false k m)
    | false => match wX false k m && wX false k n with
      | true => some (.int true k (pkA b m n))
      | false => none
def mrgB (b s s' x y : Bool) : CV := match s || s' with
  | true => .bool true (pkA b x y)
  | false => match x, y with
    | true, true => .bool false true
    | false, false => .bool false false
    | _, _ => .bool true (pkA b x y)
noncomputable def mrg (b : Bool) (k : Nat) : CV → CV → Option CV := Nat.rec (fun _ _ => none) (fun _ ih x y => match x, y with
  | .int s k m, .int s' k' n => match Nat.beq (oQ k) (oQ k') with
    | true => mrgI b s s' k m n
    | false => none
  | .bool s x, .bool s' y => some (mrgB b s s' x y)
  | .agg l, .agg m => match mrgL ih l m with
    | some z => some (.agg z)
    | none => none
  | .tup l, .tup m => match mrgL ih l m with
    | some z => some (.tup z)
    | none => none
  | .fz l o n, .fz l' o' n' => match Nat.beq o o' && Nat.beq n n', mrgL ih l l' with
    | true, some z => some (.fz z o n)
    | _, _ => none
  | .fy (.c cs) o n _, .fy (.c cs') o' n' _ => some (.fy (.c (pkA b cs cs')) (pkA b o o') (pkA b n n') true)
  | .nils, .nils => some .nils
  | .nilp, .nilp => some .nilp
  | .nilm, .nilm => some .nilm
  | _, _ => none) k
theorem o9 {β : Names} {b : Bool} {f : CV → CV → Option CV} (ih : ∀ x y z u, f x y = some z → RV β (pkA b x y) u → RV β z u) : ∀ {l m z : List CV} {us : List Value}, mrgL f l m = some z → bJ β (pkA b l m) us → bJ β z us
  | [], m, z, us, h, hu => by
    cases m with
    | nil =>
      have h' : some ([] : List CV) = some z := h
      obtain rfl := Option.some.inj h'
      cases b <;> exact hu
    | cons y m =>
      have h' : (none : Option (List CV)) = some z := h
      simp at h'
  | x :: l, m, z, us, h, hu => by
    cases m with
    | nil =>
      have h' : (none : Option (List CV)) = some z := h
      simp at h'
    | cons y m =>
      have h' : (match f x y with
        | some z => match mrgL f l m with
          | some r => some (z :: r)
          | none => none
        | none => none) = some z := h
      split at h'
      · rename_i z1 hz
        split at h'
        · rename_i r hr
          obtain rfl := Option.some.inj h'
          cases b with
          | true =>
            obtain ⟨u, r', e, h1, h2⟩ := hu
            exact ⟨u, r', e, ih x y z1 u hz h1, o9 ih hr h2⟩
          | false =>
            obtain ⟨u, r', e, h1, h2⟩ := hu
            exact ⟨u, r', e, ih x y z1 u hz h1, o9 ih hr h2⟩
        · simp at h'
      · simp at h'
theorem mrgL_len {f : CV → CV → Option CV} : ∀ {l m z : List CV}, mrgL f l m = some z → z.length = l.length ∧ z.length = m.length
  | [], m, z, h => by
    cases m with
    | nil =>
      have h' : some ([] : List CV) = some z := h
      obtain rfl := Option.some.inj h'
      exact ⟨rfl, rfl⟩
    | cons y m =>
      have h' : (none : Option (List CV)) = some z := h
      simp at h'
  | x :: l, m, z, h => by
    cases m with
    | nil =>
      have h' : (none : Option (List CV)) = some z := h
      simp at h'
    | cons y m =>
      have h' : (match f x y with
        | some z => match mrgL f l m with
          | some r => some (z :: r)
          | none => none
        | none => none) = some z := h
      split at h'
      · split at h'
        · rename_i r hr
          obtain rfl := Option.some.inj h'
          have := mrgL_len hr
          simp only [List.length_cons]
          omega
        · simp at h'
      · simp at h'
theorem mrg_ok {β : Names} {b : Bool} : ∀ (k : Nat) (x y z : CV) (u : Value), mrg b k x y = some z → RV β (pkA b x y) u → RV β z u
  | 0, x, y, z, u, h, _ => by simp [mrg] at h
  | k + 1, x, y, z, u, h, hu => by
    have ih := mrg_ok (β := β) (b := b) k
    have h' : (match (generalizing := false) x, y with
      | .int s k m, .int s' k' n => match Nat.beq (oQ k) (oQ k') with
        | true => mrgI b s s' k m n
        | false => none
      | .bool s x, .bool s' y => some (mrgB b s s' x y)
      | .agg l, .agg m => match mrgL (mrg b k) l m with
        | some z => some (CV.agg z)
        | none => none
      | .tup l, .tup m => match mrgL (mrg b k) l m with
        | some z => some (.tup z)
        | none => none
      | .fz l o n, .fz l' o' n' => match Nat.beq o o' && Nat.beq n n', mrgL (mrg b k) l l' with
        | true, some z => some (.fz z o n)
        | _, _ => none
      | .fy (.c cs) o n _, .fy (.c cs') o' n' _ => some (.fy (.c (pkA b cs cs')) (pkA b o o') (pkA b n n') true)
      | .nils, .nils => some .nils
      | .nilp, .nilp => some .nilp
      | .nilm, .nilm => some .nilm
      | _, _ => none) = some z := h
    split at h'
    · rename_i s k1 m s' k2 n
      split at h'
      · rename_i hk
        obtain rfl := eQ hk
        unfold mrgI at h'
        have go : ∀ s s', (wX s k1 m && wX s' k1 n) = true → RV β (pkA b (CV.int s k1 m) (CV.int s' k1 n)) u → RV β (.int true k1 (pkA b m n)) u := by
          intro s s' hr hu
          rw [Bool.and_eq_true] at hr
          cases b with
          | true => exact ⟨hu.1, fun _ => gJ hr.1 hu.2⟩
          | false => exact ⟨hu.1, fun _ => gJ hr.2 hu.2⟩
        split at h'
        · split at h'
          · rename_i hr
            obtain rfl := Option.some.inj h'
            exact go s s' hr hu
          · simp at h'
        · rename_i hss
          rw [Bool.or_eq_false_iff] at hss
          obtain ⟨rfl, rfl⟩ := hss
          split at h'
          · rename_i he
            obtain rfl := eqI_ok he
            obtain rfl := Option.some.inj h'
            cases b <;> exact hu
          · split at h'
            · rename_i hr
              obtain rfl := Option.some.inj h'
              exact go false false hr hu
            · simp at h'
      · simp at h'
    · rename_i s x' s' y'
      obtain rfl := Option.some.inj h'
      unfold mrgB
      have go : RV β (.bool true (pkA b x' y')) u := by cases b <;> exact hu
      split
      · exact go
      · split
        · cases b <;> exact hu
        · cases b <;> exact hu
        · exact go
    · split at h'
      · rename_i z' hz
        obtain rfl := Option.some.inj h'
        cases b with
        | true =>
          obtain ⟨us, e, h1⟩ := hu
          exact ⟨us, e, o9 ih hz h1⟩
        | false =>
          obtain ⟨us, e, h1⟩ := hu
          exact ⟨us, e, o9 ih hz h1⟩
      · simp at h'
    · split at h'
      · rename_i z' hz
        obtain rfl := Option.some.inj h'
        cases b with
        | true =>
          obtain ⟨us, e, h1⟩ := hu
          exact ⟨us, e, o9 ih hz h1⟩
        | false =>
          obtain ⟨us, e, h1⟩ := hu
          exact ⟨us, e, o9 ih hz h1⟩
      · simp at h'
    · split at h'
      · rename_i z' ho hz
        obtain rfl := Option.some.inj h'
        rw [Bool.and_eq_true] at ho
        obtain rfl := Nat.eq_of_beq_eq_true ho.1
        obtain rfl := Nat.eq_of_beq_eq_true ho.2
        obtain ⟨l1, l2⟩ := mrgL_len hz
        cases b with
        | true =>
          obtain ⟨a, off, c', us, h1, h2, h3, h4, h5⟩ := hu
          exact ⟨a, off, c', us, h1, h2, h3, h4, by rw [l1]; exact o9 ih hz h5⟩
        | false =>
          obtain ⟨a, off, c', us, h1, h2, h3, h4, h5⟩ := hu
          exact ⟨a, off, c', us, h1, h2, h3, h4, by rw [l2]; exact o9 ih hz h5⟩
      · simp at h'
    · obtain rfl := Option.some.inj h'
      cases b <;> exact hu
    · obtain rfl := Option.some.inj h'
      cases b <;> exact hu
    · obtain rfl := Option.some.inj h'
      cases b <;> exact hu
    · obtain rfl := Option.some.inj h'
      cases b <;> exact hu
    · simp at h'
def jnC (b : Bool) : Cn → Cn → Cn
  | none, none => none
  | c, d => some (pkA b (c.getD true) (d.getD true))
noncomputable def jn (r : R CV) : Option (Cn × CV) := R.rec none (fun v => some (none, v)) (fun b _ _ t f => match t with
  | some (ct, x) => match f with
    | some (cf, y) => match mrg b 9 x y with
      | some z => some (jnC b ct cf, z)
      | none => none
    | none => some (cnj (some b) ct, x)
  | none => match f with
    | some (cf, y) => some (cnj (some (!b)) cf, y)
    | none => none) r
theorem jn_ok : ∀ {r : R CV} {c : Cn} {z : CV}, jn r = some (c, z) → c.ok → ∃ x, r.val = some x ∧ ∀ (β : Names) (u : Value), RV β x u → RV β z u
  | .no, c, z, h, _ => by
    have h' : (none : Option (Cn × CV)) = some (c, z) := h
    simp at h'
  | .ok v, c, z, h, _ => by
    have h' : some ((none : Cn), v) = some (c, z) := h
    simp only [Option.some.injEq, Prod.mk.injEq] at h'
    obtain ⟨_, rfl⟩ := h'
    exact ⟨v, rfl, fun _ _ h => h⟩
  | .br b t f, c, z, h, hc => by
    have h' : (match jn t with
      | some (ct, x) => match jn f with
        | some (cf, y) => match mrg b 9 x y with
          | some z => some (jnC b ct cf, z)
          | none => none
        | none => some (cnj (some b) ct, x)
      | none => match jn f with
        | some (cf, y) => some (cnj (some (!b)) cf, y)
        | none => none) = some (c, z) := h
    split at h'
    · rename_i ct x ht
      split at h'
      · rename_i cf y hf
        split at h'
        · rename_i z' hz
          simp only [Option.some.injEq, Prod.mk.injEq] at h'
          obtain ⟨rfl, rfl⟩ := h'
          have h1 : b = true → ct.ok := fun hb => by
            subst hb
            cases ct with
            | none => rfl
            | some a => cases cf <;> exact hc
          have h2 : b = false → cf.ok := fun hb => by
            subst hb
            cases cf with
            | none => rfl
            | some a => cases ct <;> exact hc
          cases b with
          | true =>
            obtain ⟨x', k1, k2⟩ := jn_ok ht (h1 rfl)
            exact ⟨x', k1, fun β u hu => mrg_ok (b := true) 9 x y z' u hz (k2 β u hu)⟩
          | false =>
            obtain ⟨x', k1, k2⟩ := jn_ok hf (h2 rfl)
            exact ⟨x', k1, fun β u hu => mrg_ok (b := false) 9 x y z' u hz (k2 β u hu)⟩
        · simp at h'
      · simp only [Option.some.injEq, Prod.mk.injEq] at h'
        obtain ⟨rfl, rfl⟩ := h'
        obtain ⟨hb, hct⟩ := cnj_ok hc
        have hb : b = true := hb
        subst hb
        obtain ⟨x', k1, k2⟩ := jn_ok ht hct
        exact ⟨x', k1, k2⟩
    · split at h'
      · rename_i cf y hf
        simp only [Option.some.injEq, Prod.mk.injEq] at h'
        obtain ⟨rfl, rfl⟩ := h'
        obtain ⟨hb, hcf⟩ := cnj_ok hc
        have hb : (!b) = true := hb
        cases b with
        | true => simp at hb
        | false =>
          obtain ⟨x', k1, k2⟩ := jn_ok hf hcf
          exact ⟨x', k1, k2⟩
      · simp at h'
noncomputable def jnS (s : List CV → Acc → R CV) (l : List CV) (V : Acc) : R CV := match jn (s l V) with
  | some (c, v) => brO c (.ok v)
  | none => .no
theorem jnS_ok {P : Program} {f : FuncId} {s : List CV → Acc → R CV} (hs : bM P f s) : bM P f (jnS s) := by
  intro l V v h β args w nx hG hR hV
  unfold jnS at h
  split at h
  · rename_i c z hz
    obtain ⟨hc, h1⟩ := yJ h
    obtain rfl := Option.some.inj h1
    obtain ⟨x, k1, k2⟩ := jn_ok hz hc
    exact fB (hs l V x k1 β args w nx hG hR hV) (fun u w' ⟨β', q1, q2, q3⟩ => ⟨β', q1, k2 β' u q2, q3⟩)
  · simp [R.val] at h
end Go.Proofs.YtcgdimlbbdfdpaaGreatDoor
