/-
  What this statement needs, part 14: the texts of it, one behind the other.
-/
import Derived.Test.YtcgdimlbbdfdpaaGreatDoorBase13
set_option maxRecDepth 100000
set_option linter.all false
namespace Go.Proofs.YtcgdimlbbdfdpaaGreatDoor
open Go Go.RowKit
set_option maxRecDepth 20000
noncomputable def cT5 : bQ := bT (bT (bT (bT cT4 143 (jpx cT4 143)) 87 findS) 89 totS) 138 sndS
theorem cT5_ok : gV Tryz.prog cT5 := aG (aG (aG (aG cT4_ok (nM cT4_ok (by kernel_rfl))) find_pur) tot_pur) snd_pur
noncomputable def cmpZ (a b : List Int) : Int := aS (resZ (pr cT1 192) [.agg (keyV a), .agg (keyV b)])
theorem xsB_lo {n : Nat} {a : Int} (h0 : 0 ≤ a) (h1 : a ≤ (n : Int)) : xsB n (some a) none none = true := by
  unfold xsB
  simp only [Option.getD_some, Option.getD_none, Bool.and_eq_true, decide_eq_true_eq]
  omega
theorem l7.rows {L L' : List aJ} {m m' : Nat} (h1 : L = L') (h2 : m = m') : l7 (.fy (.c L) 0 m true) (.fy (.c L') 0 m' true) := by
  subst h1 h2; exact l7.rfl_ _
theorem Fin.row {t g m cc : Nat} {L : List aJ} {v : CV} {s : aP} (h : s.fr.get t = some (.xs g 0 m cc false)) (hg : s.H.get g = some (.rw L)) (h64 : Nat.ble 64 g = true) (hm : m ≤ L.length) (hv : l7 (.fy (.c L) 0 m true) v) : Fin [.t (way t)] v s := by
  refine ⟨[.xs g 0 m cc false], some (decide (0 + m ≤ L.length)), .fy (.c L) 0 m true, ?_, ?_, decide_eq_true (by omega), hv⟩
  · simp only [xP]
    rw [show s.fr.at_ (way t) = _ from h]
  · show (match s.H.get g with
      | some (.rw cs) => match Nat.ble 64 g with
        | true => some (some (decide (0 + m ≤ cs.length)), CV.fy (.c cs) 0 m true)
        | false => none
      | _ => none) = _
    rw [hg, h64]
def addIf (b : Bool) (l : List aJ) (x : aJ) : List aJ := match b with
  | true => l ++ [x]
  | false => l
section
variable (cs : List aJ) (o n : Nat) (c : aJ)
noncomputable def ltB (i : Nat) : Bool := decide (cmpZ (cs.getD (o + i) cn0).o c.o < 0)
def oM (c : aJ) : aJ := ⟨(List.range 33).map (fun j => c.o.getD j 0), c.v, c.x, c.h, c.c⟩
noncomputable def lowZ : Nat → List aJ
  | 0 => []
  | i + 1 => addIf (ltB cs o c i) (lowZ i) (oM (cs.getD (o + i) cn0))
def tlZ (k : Nat) : List aJ := (cs.drop (o + k)).take (n - k)
noncomputable def xB : List aJ := lowZ cs o c n ++ [oM c] ++ tlZ cs o n (lowZ cs o c n).length
theorem lowZ_len : ∀ i, (lowZ cs o c i).length ≤ i
  | 0 => Nat.le_refl 0
  | i + 1 => by
    have := lowZ_len i
    rw [lowZ]
    unfold addIf
    split
    · rw [List.length_append, List.length_singleton]; omega
    · omega
noncomputable def wiC : Code := lL Tryz.f147
noncomputable def wiB : Code := cIn (cIn (kC (kA (kC (kC wiC)))))
noncomputable def wiS0 : aP := ⟨frameC 0 [.fy (.c cs) o n true, .agg (nO c)] .e, .e, 64, []⟩
noncomputable def wiPre : List Code := [kA wiC, kA (kC wiC)]
noncomputable def wiPre2 : List Code := [kA (kA (kC (kC wiC)))]
noncomputable def wiPost : List Code := [kA (kC (kC (kC wiC)))]
theorem wiCode : wiC = nH wiPre (.seq (nH wiPre2 (.block 0 (.loop wiB))) (nH wiPost .ret)) := by kernel_rfl
def wiSl (out : CV) (i : Nat) : List (Nat × CV) := [(0, .fy (.c cs) o n true), (3, .ptr 64 0), (5, out), (8, .int true .i64 (.ofNat n)), (9, .int true .i64 (.ofNat i))]
noncomputable def wiN (i : Nat) : aP := stF (wiSl cs o n .nils i) [(64, .cells (nO c) 163 false)] 65
noncomputable def wiX (l : List aJ) (k i : Nat) : aP := stF (wiSl cs o n (.xs 65 0 k 0 false) i) [(64, .cells (nO c) 163 false), (65, .rw l)] 66
noncomputable def wiRn (i : Nat) : R (Ex × aP) := iJ cT5 39 wiB (wiN cs o n c i)
noncomputable def wiRx (l : List aJ) (k i : Nat) : R (Ex × aP) := iJ cT5 39 wiB (wiX cs o n c l k i)
noncomputable def wiLn (ds : List Bool) (i : Nat) : Ex × aP := R.lfp (.nrm, dW) ds (wiRn cs o n c i)
noncomputable def wiLx (ds : List Bool) (l : List aJ) (k i : Nat) : Ex × aP := R.lfp (.nrm, dW) ds (wiRx cs o n c l k i)
noncomputable def wiPn (i : Nat) : R aP := nI cT5 39 wiPost (wiLn cs o n c [false] i).2
noncomputable def wiPx (l : List aJ) (k i : Nat) : R aP := nI cT5 39 wiPost (wiLx cs o n c [false] l k i).2
def ckI (i : Nat) : Bool := decide ((0 : Int) ≤ (i : Int)) && decide ((i : Int) < (n : Int))
def liI (i : Nat) : Bool := decide ((i : Int) < (n : Int))
theorem wiN1 (i : Nat) : R.okp [true, true, true, true] (wiRn cs o n c i) = true ∧ R.cds [true, true, true, true] (wiRn cs o n c i) = [liI n i, ckI n i, ltB cs o c i, ckI n i] := ⟨by kernel_rfl, by kernel_rfl⟩
theorem wiN2 (i : Nat) : R.okp [true, true, false] (wiRn cs o n c i) = true ∧ R.cds [true, true, false] (wiRn cs o n c i) = [liI n i, ckI n i, ltB cs o c i] := ⟨by kernel_rfl, by kernel_rfl⟩
theorem wiN3 (i : Nat) : R.okp [false] (wiRn cs o n c i) = true ∧ R.cds [false] (wiRn cs o n c i) = [liI n i] := ⟨by kernel_rfl, by kernel_rfl⟩
theorem wiX1 (l : List aJ) (k i : Nat) : R.okp [true, true, true, true, true] (wiRx cs o n c l k i) = true ∧ R.cds [true, true, true, true, true] (wiRx cs o n c l k i) = [liI n i, ckI n i, ltB cs o c i, ckI n i, decide (0 + k ≤ l.length) && decide (k ≤ 1048576)] := ⟨by kernel_rfl, by kernel_rfl⟩
theorem wiX2 (l : List aJ) (k i : Nat) : R.okp [true, true, false] (wiRx cs o n c l k i) = true ∧ R.cds [true, true, false] (wiRx cs o n c l k i) = [liI n i, ckI n i, ltB cs o c i] := ⟨by kernel_rfl, by kernel_rfl⟩
theorem wiX3 (l : List aJ) (k i : Nat) : R.okp [false] (wiRx cs o n c l k i) = true ∧ R.cds [false] (wiRx cs o n c l k i) = [liI n i] := ⟨by kernel_rfl, by kernel_rfl⟩
theorem wiP1 (i : Nat) (b : Bool) : R.okp [true, true, true, b] (wiPn cs o n c i) = true ∧ R.cds [true, true, true, b] (wiPn cs o n c i) = [xsB n (some 0) none none, true && decide ((tlZ cs o n 0).length ≤ 1048576), decide (0 + 1 ≤ 1) && decide (1 ≤ 1048576), decide (0 < (tlZ cs o n 0).length)] := by cases b <;> exact ⟨by kernel_rfl, by kernel_rfl⟩
theorem wiP2 (l : List aJ) (k i : Nat) (b : Bool) : R.okp [true, true, true, true, b] (wiPx cs o n c l k i) = true ∧ R.cds [true, true, true, true, b] (wiPx cs o n c l k i) = [xsB n (some (.ofNat k)) none none, decide (0 + k ≤ l.length) && decide (k ≤ 1048576), true && decide ((tlZ cs o n k).length ≤ 1048576), decide (0 + (k + 1) ≤ (l.take k ++ [oM c]).length) && decide (k + 1 ≤ 1048576), decide (0 < (tlZ cs o n k).length)] := by cases b <;> exact ⟨by kernel_rfl, by kernel_rfl⟩
noncomputable def wiS1 : aP := R.lf dW (nI cT5 39 wiPre (wiS0 cs o n c))
noncomputable def wiS2 : aP := R.lf dW (nI cT5 39 wiPre2 (wiS1 cs o n c))
theorem coinV_clo : allC (clo 9) (nO c) = true := by kernel_rfl
theorem wiSN {s : aP} {i : Nat} {b : Bool} (h0 : s.fr.get 0 = some (.fy (.c cs) o n true)) (h3 : s.fr.get 3 = some (.ptr 64 0)) (h5 : s.fr.get 5 = some .nils) (h8 : s.fr.get 8 = some (.int true .i64 (.ofNat n))) (h9 : s.fr.get 9 = some (.int b .i64 (.ofNat i))) (hi : i ≤ 140737488355328) (g : s.H.get 64 = some (.cells (nO c) 163 false)) (hx : Nat.ble 65 s.nx = true) (hw : s.wr = []) : Wk 64 [] (fun n => n) s (wiN cs o n c i) :=
  wkI ⟨⟨_, h0, pU.clo rfl⟩, ⟨_, h3, pU.pt (by omega) 0 rfl⟩, ⟨_, h5, pU.clo rfl⟩, ⟨_, h8, pU.clo rfl⟩, ⟨_, h9, pU.wk (iW hi)⟩, trivial⟩ ⟨⟨by omega, by omega, _, g, LeO.clo (coinV_clo c)⟩, trivial⟩ (by omega) (dK hx) hw
def mv65 (g : Nat) (n : Nat) : Nat := if n = 65 then g else n
theorem wiSX {s : aP} {l : List aJ} {k i g : Nat} {b : Bool} (h0 : s.fr.get 0 = some (.fy (.c cs) o n true)) (h3 : s.fr.get 3 = some (.ptr 64 0)) (h5 : s.fr.get 5 = some (.xs g 0 k 0 false)) (h8 : s.fr.get 8 = some (.int true .i64 (.ofNat n))) (h9 : s.fr.get 9 = some (.int b .i64 (.ofNat i))) (hi : i ≤ 140737488355328) (hc : s.H.get 64 = some (.cells (nO c) 163 false)) (hl : s.H.get g = some (.rw l)) (hg : (Nat.ble 65 g && Nat.blt g s.nx) = true) (hx : Nat.ble 66 s.nx = true) (hw : s.wr = []) : Wk 64 [] (mv65 g) s (wiX cs o n c l k i) := by
  rw [Bool.and_eq_true] at hg
  have g1 := dK hg.1
  have g2 := ofLt hg.2
  have hx := dK hx
  have m64 : mv65 g 64 = 64 := by unfold mv65; rw [if_neg (by omega)]
  have m65 : mv65 g 65 = g := by unfold mv65; rw [if_pos rfl]
  refine wkG ⟨⟨_, h0, pU.clo rfl⟩, ⟨_, h3, pU.pt (by omega) 0 m64⟩, ⟨_, h5, pU.row (by omega) 0 k 0 false m65⟩, ⟨_, h8, pU.clo rfl⟩, ⟨_, h9, pU.wk (iW hi)⟩, trivial⟩ ⟨⟨by omega, by omega, _, by rw [m64]; exact hc, LeO.clo (coinV_clo c)⟩, ⟨by omega, by omega, _, by rw [m65]; exact hl, LeO.rows l⟩, trivial⟩ (by omega) (fun n hn => by unfold mv65; rw [if_neg (by omega)]) (fun n h1 h2 => ?_) (fun n k hn hk e => ?_) hw
  · unfold mv65
    split
    · omega
    · omega
  · simp only [List.map_cons, List.map_nil, List.mem_cons, List.not_mem_nil, or_false] at hn hk
    rcases hn with rfl | rfl <;> rcases hk with rfl | rfl <;> simp only [m64, m65] at e <;> omega
noncomputable def wiJ (i : Nat) : aP := match lowZ cs o c i with
  | [] => wiN cs o n c i
  | x :: l => wiX cs o n c (x :: l) (l.length + 1) i
theorem tlZ_len {k : Nat} (hb : o + n ≤ cs.length) : (tlZ cs o n k).length = n - k := by
  unfold tlZ
  rw [List.length_take, List.length_drop]; omega
theorem wiWalk (hn : n ≤ 1000000) (hb : o + n ≤ cs.length) {β0 : Names} {w0 : World} {A : Act} (hfr : ∀ m, 64 ≤ m → β0.ad m = none) (hI : Inv β0 64 39 w0 [] (wiS0 cs o n c) β0 A w0) : wiC.wp Tryz.prog (EndF Tryz.prog [.t (way 4)] β0 39 w0 (.fy (.c (xB cs o n c)) 0 (n + 1) true)) A w0 := by
  rw [wiCode]
  have hJ0 : wiJ cs o n c 0 = wiN cs o n c 0 := by
    have e : lowZ cs o c 0 = [] := by rw [lowZ]
    unfold wiJ; rw [e]
  refine loopF cT5_ok (by kernel_rfl) (by kernel_rfl) (by kernel_rfl) (by kernel_rfl) (fun x : { i : Nat // i ≤ n } => wiJ cs o n c x.1) (fun x => n - x.1) (fun x => ?_) (S0 := wiS0 cs o n c) (s1 := wiS1 cs o n c) (s2 := wiS2 cs o n c) (x0 := ⟨0, by omega⟩) (ρ0 := fun n => n) (R.val_ok _ (by kernel_rfl)) (R.val_ok _ (by kernel_rfl)) (by
    show Wk 64 [] _ _ (wiJ cs o n c 0)
    rw [hJ0]
    exact wiSN cs o n c (i := 0) (b := false) (by kernel_rfl) (by kernel_rfl) (by kernel_rfl) (by kernel_rfl) (by kernel_rfl) (by omega) (by kernel_rfl) (by kernel_rfl) (by kernel_rfl)) (fun x => ?_) hfr hI (pu0 _)
  · show Pu 64 [] .e (wiJ cs o n c x.1)
    unfold wiJ
    split
    · exact puF (by omega) (by simp)
    · exact puF (by omega) (by simp)
  obtain ⟨i, hi⟩ := x
  have nx : lowZ cs o c (i + 1) = addIf (ltB cs o c i) (lowZ cs o c i) (oM (cs.getD (o + i) cn0)) := by rw [lowZ]
  have hk := lowZ_len cs o c i
  show ∃ e s', (iJ cT5 39 wiB (wiJ cs o n c i)).val = some (e, s') ∧ _
  by_cases h1 : i < n
  · have c1 : liI n i = true := decide_eq_true (by omega)
    have c2 : ckI n i = true := by unfold ckI; rw [decide_eq_true (by omega : (i : Int) < (n : Int)), decide_eq_true (by omega : (0 : Int) ≤ (i : Int))]; rfl
    have w8 : dP .i64 (.ofNat (i + 1)) = .ofNat (i + 1) := by rw [bZ, iW (by omega)]
    cases hz : lowZ cs o c i with
    | nil =>
      have e0 : wiJ cs o n c i = wiN cs o n c i := by unfold wiJ; rw [hz]
      rw [e0]
      show ∃ e s', (wiRn cs o n c i).val = some (e, s') ∧ _
      rw [hz] at nx
      cases hh : ltB cs o c i with
      | true =>
        rw [hh] at nx
        refine ⟨.nrm, _, R.val_pe (.nrm, dW) (wiN1 cs o n c i).1 (by rw [(wiN1 cs o n c i).2, c1, c2, hh]) (by kernel_rfl), Or.inl ⟨rfl, ⟨i + 1, by omega⟩, mv65 66, by show n - (i + 1) < n - i; omega, ?_⟩⟩
        have e1 : wiJ cs o n c (i + 1) = wiX cs o n c [oM (cs.getD (o + i) cn0)] 1 (i + 1) := by unfold wiJ; rw [nx]; rfl
        show Wk 64 [] _ _ (wiJ cs o n c (i + 1))
        rw [e1]
        have k9 : (wiLn cs o n c [true, true, true, true] i).2.fr.get 9 = some (.int true .i64 (dP .i64 (.ofNat (i + 1)))) := by kernel_rfl
        rw [w8] at k9
        exact wiSX cs o n c (b := true) (by kernel_rfl) (by kernel_rfl) (by kernel_rfl) (by kernel_rfl) k9 (by omega) (by kernel_rfl) (by kernel_rfl) (by kernel_rfl) (by kernel_rfl) (by kernel_rfl)
      | false =>
        rw [hh] at nx
        refine ⟨.nrm, _, R.val_pe (.nrm, dW) (wiN2 cs o n c i).1 (by rw [(wiN2 cs o n c i).2, c1, c2, hh]) (by kernel_rfl), Or.inl ⟨rfl, ⟨i + 1, by omega⟩, fun n => n, by show n - (i + 1) < n - i; omega, ?_⟩⟩
        have e1 : wiJ cs o n c (i + 1) = wiN cs o n c (i + 1) := by unfold wiJ; rw [nx]; rfl
        show Wk 64 [] _ _ (wiJ cs o n c (i + 1))
        rw [e1]
        have k9 : (wiLn cs o n c [true, true, false] i).2.fr.get 9 = some (.int true .i64 (dP .i64 (.ofNat (i + 1)))) := by kernel_rfl
        rw [w8] at k9
        exact wiSN cs o n c (b := true) (by kernel_rfl) (by kernel_rfl) (by kernel_rfl) (by kernel_rfl) k9 (by omega) (by kernel_rfl) (by kernel_rfl) (by kernel_rfl)
    | cons x l =>
      have e0 : wiJ cs o n c i = wiX cs o n c (x :: l) (l.length + 1) i := by unfold wiJ; rw [hz]
      rw [e0]
      show ∃ e s', (wiRx cs o n c (x :: l) (l.length + 1) i).val = some (e, s') ∧ _
      rw [hz] at nx hk
      have hk : l.length + 1 ≤ i := hk
      cases hh : ltB cs o c i with
      | true =>
        rw [hh] at nx
        have c6 : (decide (0 + (l.length + 1) ≤ (x :: l).length) && decide (l.length + 1 ≤ 1048576)) = true := by rw [decide_eq_true (by rw [List.length_cons]; omega), decide_eq_true (by omega)]; rfl
        refine ⟨.nrm, _, R.val_pe (.nrm, dW) (wiX1 cs o n c (x :: l) (l.length + 1) i).1 (by rw [(wiX1 cs o n c (x :: l) (l.length + 1) i).2, c1, c2, hh, c6]) (by kernel_rfl), Or.inl ⟨rfl, ⟨i + 1, by omega⟩, mv65 67, by show n - (i + 1) < n - i; omega, ?_⟩⟩
        have e1 : wiJ cs o n c (i + 1) = wiX cs o n c (x :: (l ++ [oM (cs.getD (o + i) cn0)])) (l.length + 1 + 1) (i + 1) := by
          unfold wiJ
          rw [nx]
          unfold addIf
          show wiX cs o n c (x :: (l ++ [oM (cs.getD (o + i) cn0)])) ((l ++ [oM (cs.getD (o + i) cn0)]).length + 1) (i + 1) = _
          rw [List.length_append, List.length_singleton]
        show Wk 64 [] _ _ (wiJ cs o n c (i + 1))
        rw [e1]
        have k9 : (wiLx cs o n c [true, true, true, true, true] (x :: l) (l.length + 1) i).2.fr.get 9 = some (.int true .i64 (dP .i64 (.ofNat (i + 1)))) := by kernel_rfl
        rw [w8] at k9
        have kH : (wiLx cs o n c [true, true, true, true, true] (x :: l) (l.length + 1) i).2.H.get 67 = some (.rw ((x :: l).take (l.length + 1) ++ [oM (cs.getD (o + i) cn0)])) := by kernel_rfl
        rw [List.take_of_length_le (by rw [List.length_cons]; omega)] at kH
        exact wiSX cs o n c (b := true) (by kernel_rfl) (by kernel_rfl) (by kernel_rfl) (by kernel_rfl) k9 (by omega) (by kernel_rfl) kH (by kernel_rfl) (by kernel_rfl) (by kernel_rfl)
      | false =>
        rw [hh] at nx
        refine ⟨.nrm, _, R.val_pe (.nrm, dW) (wiX2 cs o n c (x :: l) (l.length + 1) i).1 (by rw [(wiX2 cs o n c (x :: l) (l.length + 1) i).2, c1, c2, hh]) (by kernel_rfl), Or.inl ⟨rfl, ⟨i + 1, by omega⟩, mv65 65, by show n - (i + 1) < n - i; omega, ?_⟩⟩
        have e1 : wiJ cs o n c (i + 1) = wiX cs o n c (x :: l) (l.length + 1) (i + 1) := by unfold wiJ; rw [nx]; rfl
        show Wk 64 [] _ _ (wiJ cs o n c (i + 1))
        rw [e1]
        have k9 : (wiLx cs o n c [true, true, false] (x :: l) (l.length + 1) i).2.fr.get 9 = some (.int true .i64 (dP .i64 (.ofNat (i + 1)))) := by kernel_rfl
        rw [w8] at k9
        exact wiSX cs o n c (b := true) (by kernel_rfl) (by kernel_rfl) (by kernel_rfl) (by kernel_rfl) k9 (by omega) (by kernel_rfl) (by kernel_rfl) (by kernel_rfl) (by kernel_rfl) (by kernel_rfl)
  · obtain rfl : i = n := by omega
    have c1 : liI i i = false := decide_eq_false (by omega)
    cases hz : lowZ cs o c i with
    | nil =>
      have e0 : wiJ cs o i c i = wiN cs o i c i := by unfold wiJ; rw [hz]
      rw [e0]
      show ∃ e s', (wiRn cs o i c i).val = some (e, s') ∧ _
      have hw : xB cs o i c = [oM c] ++ tlZ cs o i 0 := by unfold xB; rw [hz]; rfl
      have hl := tlZ_len cs o i (k := 0) hb
      have cs' : R.cds [true, true, true, decide (0 < (tlZ cs o i 0).length)] (wiPn cs o i c i) = [true, true, true, decide (0 < (tlZ cs o i 0).length)] := by
        rw [(wiP1 cs o i c i _).2, xsB_lo (by omega) (by omega), decide_eq_true (by omega : (tlZ cs o i 0).length ≤ 1048576)]; rfl
      refine ⟨.exit 0, _, R.val_pe (.nrm, dW) (wiN3 cs o i c i).1 (by rw [(wiN3 cs o i c i).2, c1]) (by kernel_rfl), Or.inr (Or.inr ⟨rfl, _, R.val_p dW (wiP1 cs o i c i _).1 cs', ?_⟩)⟩
      rw [hw]
      cases hd : decide (0 < (tlZ cs o i 0).length) with
      | true => exact Fin.row (g := 67) (cc := 0) (m := 1 + (tlZ cs o i 0).length) (L := [oM c].take 1 ++ tlZ cs o i 0) (by kernel_rfl) (by kernel_rfl) rfl (by rw [List.length_append]; simp) (l7.rows rfl (by omega))
      | false =>
        have := of_decide_eq_false hd
        have e2 : tlZ cs o i 0 = [] := List.eq_nil_of_length_eq_zero (by omega)
        exact Fin.row (g := 66) (cc := 0) (m := 1) (L := [oM c]) (by kernel_rfl) (by kernel_rfl) rfl (by simp) (l7.rows (by rw [e2]; rfl) (by omega))
    | cons x l =>
      have e0 : wiJ cs o i c i = wiX cs o i c (x :: l) (l.length + 1) i := by unfold wiJ; rw [hz]
      rw [e0]
      show ∃ e s', (wiRx cs o i c (x :: l) (l.length + 1) i).val = some (e, s') ∧ _
      rw [hz] at hk
      have hk : l.length + 1 ≤ i := hk
      have hw : xB cs o i c = (x :: l) ++ [oM c] ++ tlZ cs o i (l.length + 1) := by unfold xB; rw [hz]; rfl
      have hl := tlZ_len cs o i (k := l.length + 1) hb
      have ht : (x :: l).take (l.length + 1) = x :: l := List.take_of_length_le (by rw [List.length_cons]; omega)
      have cs' : R.cds [true, true, true, true, decide (0 < (tlZ cs o i (l.length + 1)).length)] (wiPx cs o i c (x :: l) (l.length + 1) i) = [true, true, true, true, decide (0 < (tlZ cs o i (l.length + 1)).length)] := by
        rw [(wiP2 cs o i c (x :: l) (l.length + 1) i _).2, xsB_lo (by show (0 : Int) ≤ ((l.length + 1 : Nat) : Int); omega) (by show ((l.length + 1 : Nat) : Int) ≤ (i : Int); omega), decide_eq_true (by omega : (tlZ cs o i (l.length + 1)).length ≤ 1048576), decide_eq_true (by rw [List.length_cons]; omega : 0 + (l.length + 1) ≤ (x :: l).length), decide_eq_true (by omega : l.length + 1 ≤ 1048576), decide_eq_true (by rw [ht, List.length_append, List.length_cons, List.length_singleton]; omega : 0 + (l.length + 1 + 1) ≤ ((x :: l).take (l.length + 1) ++ [oM c]).length), decide_eq_true (by omega : l.length + 1 + 1 ≤ 1048576)]; rfl
      refine ⟨.exit 0, _, R.val_pe (.nrm, dW) (wiX3 cs o i c (x :: l) (l.length + 1) i).1 (by rw [(wiX3 cs o i c (x :: l) (l.length + 1) i).2, c1]) (by kernel_rfl), Or.inr (Or.inr ⟨rfl, _, R.val_p dW (wiP2 cs o i c (x :: l) (l.length + 1) i _).1 cs', ?_⟩)⟩
      rw [hw]
      have hu : ((x :: l) ++ [oM c]).take (l.length + 1 + 1) = (x :: l) ++ [oM c] := List.take_of_length_le (by rw [List.length_append, List.length_cons, List.length_singleton]; omega)
      cases hd : decide (0 < (tlZ cs o i (l.length + 1)).length) with
      | true => exact Fin.row (g := 68) (cc := 0) (m := l.length + 1 + 1 + (tlZ cs o i (l.length + 1)).length) (L := ((x :: l).take (l.length + 1) ++ [oM c]).take (l.length + 1 + 1) ++ tlZ cs o i (l.length + 1)) (by kernel_rfl) (by kernel_rfl) rfl (by rw [ht, hu, List.length_append, List.length_append, List.length_cons, List.length_singleton]; omega) (l7.rows (by rw [ht, hu]) (by omega))
      | false =>
        have := of_decide_eq_false hd
        have e2 : tlZ cs o i (l.length + 1) = [] := List.eq_nil_of_length_eq_zero (by omega)
        exact Fin.row (g := 67) (cc := 0) (m := l.length + 1 + 1) (L := (x :: l).take (l.length + 1) ++ [oM c]) (by kernel_rfl) (by kernel_rfl) rfl (by rw [ht, List.length_append, List.length_cons, List.length_singleton]; omega) (l7.rows (by rw [ht, e2, List.append_nil]) (by omega))
end
noncomputable def withS (l : List CV) (_ : Acc) : R CV := match l with
  | [.fy (.c cs) o n _, .agg ks] => match coinOf ks with
    | some c => .br (decide (n ≤ 1000000)) (.ok (.fy (.c (xB cs o n c)) 0 (n + 1) true)) .no
    | none => .no
  | _ => .no
theorem coinV_of {β : Names} {ks : List CV} {c : aJ} {us : List Value} (h : coinOf ks = some c) (hu : bJ β ks us) : bJ β (nO c) us := by
  obtain ⟨k1, k2⟩ := coinOf_ok h hu
  obtain ⟨q1, s, q2, q3⟩ := k2 0 c rfl
  have e : us = iH c s := by
    apply List.ext_getElem?
    intro j
    by_cases hj : j < 37
    · have hj' : j < (iH c s).length := by rw [lZ]; exact hj
      have := q3 j _ (List.getElem?_eq_getElem hj')
      rw [Nat.mul_zero, Nat.zero_add] at this
      rw [this, List.getElem?_eq_getElem hj']
    · rw [List.getElem?_eq_none (by rw [k1]; simp; omega), List.getElem?_eq_none (by rw [lZ]; omega)]
  rw [e]
  exact coinV_rv q1 q2
theorem with_pur : bM Tryz.prog 147 withS := by
  intro l V v hh β args w nx hG hR hV
  unfold withS at hh
  split at hh
  · split at hh
    · rename_i cs o n u ks _ c hc
      cases hd : decide (n ≤ 1000000) with
      | false => rw [hd] at hh; simp [R.val] at hh
      | true =>
        rw [hd] at hh
        obtain rfl := Option.some.inj hh
        obtain ⟨u1, r1, e1, q1, u2, r2, e2, ⟨us, e3, q2⟩, e4⟩ := hR
        have hR' : bJ β [.fy (.c cs) o n true, .agg (nO c)] args.toList := ⟨u1, r1, e1, q1, u2, r2, e2, ⟨us, e3, coinV_of hc q2⟩, e4⟩
        exact walkF Tryz.func147 (by kernel_rfl) (by kernel_rfl) (by kernel_rfl) (by show 2 ≤ 39; omega) (by kernel_rfl) (fun β0 w A hfr hI => wiWalk cs o n c (of_decide_eq_true hd) q1.1 hfr hI) hG hR' hV
    · simp [R.val] at hh
  · simp [R.val] at hh
set_option maxRecDepth 20000
theorem HV.lift {V : Acc} {β β' : Names} {w w' : World} {nx : Nat} (h : HV V β w) (ht : pK β β' nx nx [] w w') (h' : HV (fun _ => none) β' w') : HV V β' w' := by
  have up : ∀ a, a < w.heap.size → w'.heap[a]? = w.heap[a]? := fun a ha => ht.upd.block a ha (fun ⟨p, hp, _⟩ => by simp at hp)
  have ad : ∀ n, β'.ad n = β.ad n ∧ β'.sz n = β.sz n := fun n => ht.ext n (by omega)
  refine ⟨fun n o ho => ?_, fun n m a hn hm h1 h2 => h.inj n m a hn hm ((ad n).1 ▸ h1) ((ad m).1 ▸ h2), fun a ha => ⟨(h'.fpa a ha).1, fun n hn hna => ?_⟩, h'.sxf⟩
  · obtain ⟨a, ob, k1, k2, k3, k4⟩ := h.at_ n o ho
    exact ⟨a, ob, (ad n).1.trans k1, by rw [up a (Array.getElem?_eq_some_iff.1 k2).1]; exact k2, k3.mono ⟨fun g x hx => ⟨(ad g).1.trans hx, (ad g).2⟩, ht.sxm⟩, (ad n).2.trans k4⟩
  · rw [(ad n).1] at hna
    have hlt := h.lt hn hna
    rcases ht.fpn a ha with q | q
    · exact (h.fpa a q).2 n hn hna
    · omega
noncomputable abbrev pe (CT : bQ) (f : FuncId) (l : List CV) : R CV := pr CT f l (fun _ => none)
theorem pe_pur {CT : bQ} (hT : gV Tryz.prog CT) {f : FuncId} (hf : CT f = none) {s : List CV → Acc → R CV} (hs : ∀ (l : List CV) (V : Acc) (v : CV), (s l V).val = some v → ∀ (β : Names) (us : List Value), bJ β l us → ∃ l' v', bJ β l' us ∧ (pe CT f l').val = some v' ∧ l7 v' v) : bM Tryz.prog f s := by
  intro l V v h β args w nx hG hR hV
  obtain ⟨l', v', k1, k2, k3⟩ := hs l V v h β _ hR
  have hV0 : HV (fun _ => none) β w := ⟨fun n o ho => by simp at ho, fun n m a hn => by simp at hn, fun a ha => ⟨(hV.fpa a ha).1, fun n hn => by simp at hn⟩, hV.sxf⟩
  exact fB (nY hT hf l' (fun _ => none) v' k2 β args w nx hG k1 hV0) (fun u w' ⟨β', q1, q2, q3⟩ => ⟨β', q1, k3 _ _ q2, hV.lift q1 q3⟩)
theorem cbs_pur : bM Tryz.prog 144 (nmS (pr cT5 144) wP .b) := pI (nY cT5_ok (by kernel_rfl)) (fun l h => wI (Q := fun l => meet .b (jn (pr cT5 144 l aV)) = true) h (fun q v x => by kernel_rfl) (fun o q w v x => by kernel_rfl) (fun o q w v x v' x' => by kernel_rfl))
noncomputable def cT6 : bQ := bT (bT cT5 144 (nmS (pr cT5 144) wP .b)) 147 withS
theorem cT6_ok : gV Tryz.prog cT6 := aG (aG cT5_ok cbs_pur) with_pur
section
variable (cs : List aJ) (o n k : Nat)
noncomputable def woR : R CV := pe cT6 86 [.fy (.c cs) o n true, .int true .i64 (.ofNat k)]
def hdZ : List aJ := (cs.drop (o + 0)).take (k - 0)
def dropZ : List aJ := hdZ cs o k ++ tlZ cs o n (k + 1)
def kp : Int := dP .i64 (.ofNat (k + 1))
def tlW : List aJ := (cs.drop (o + (kp k).toNat)).take (n - (kp k).toNat)
def xA : Bool := xsB n none (some (.ofNat k)) none
def xD : Bool := xsB n (some (kp k)) none none
def lB : Bool := true && decide ((hdZ cs o k).length ≤ 1048576)
def lE : Bool := true && decide ((tlW cs o n k).length ≤ 1048576)
def gC : Bool := decide (0 < (hdZ cs o k).length)
def gG : Bool := decide (0 < (tlW cs o n k).length)
def fF : Bool := decide (0 + (hdZ cs o k).length ≤ (hdZ cs o k).length) && decide ((hdZ cs o k).length ≤ 1048576)
theorem wo1 : R.okp [true, true, true, true, true, true, true, true] (woR cs o n k) = true ∧ R.cds [true, true, true, true, true, true, true, true] (woR cs o n k) = [xA n k, lB cs o k, gC cs o k, xD n k, lE cs o n k, fF cs o k, gG cs o n k, decide (0 + ((hdZ cs o k).length + (tlW cs o n k).length) ≤ ((hdZ cs o k).take (hdZ cs o k).length ++ tlW cs o n k).length)] ∧ R.lfp .nils [true, true, true, true, true, true, true, true] (woR cs o n k) = .fy (.c ((hdZ cs o k).take (hdZ cs o k).length ++ (tlW cs o n k))) 0 ((hdZ cs o k).length + (tlW cs o n k).length) true := ⟨by kernel_rfl, by kernel_rfl, by kernel_rfl⟩
theorem wo2 : R.okp [true, true, true, true, true, true, false, true] (woR cs o n k) = true ∧ R.cds [true, true, true, true, true, true, false, true] (woR cs o n k) = [xA n k, lB cs o k, gC cs o k, xD n k, lE cs o n k, fF cs o k, gG cs o n k, decide (0 + (hdZ cs o k).length ≤ (hdZ cs o k).length)] ∧ R.lfp .nils [true, true, true, true, true, true, false, true] (woR cs o n k) = .fy (.c (hdZ cs o k)) 0 (hdZ cs o k).length true := ⟨by kernel_rfl, by kernel_rfl, by kernel_rfl⟩
theorem wo3 : R.okp [true, true, false, true, true, true, true] (woR cs o n k) = true ∧ R.cds [true, true, false, true, true, true, true] (woR cs o n k) = [xA n k, lB cs o k, gC cs o k, xD n k, lE cs o n k, gG cs o n k, decide (0 + (tlW cs o n k).length ≤ (tlW cs o n k).length)] ∧ R.lfp .nils [true, true, false, true, true, true, true] (woR cs o n k) = .fy (.c (tlW cs o n k)) 0 (tlW cs o n k).length true := ⟨by kernel_rfl, by kernel_rfl, by kernel_rfl⟩
theorem wo4 : R.okp [true, true, false, true, true, false] (woR cs o n k) = true ∧ R.cds [true, true, false, true, true, false] (woR cs o n k) = [xA n k, lB cs o k, gC cs o k, xD n k, lE cs o n k, gG cs o n k] ∧ R.lfp .nils [true, true, false, true, true, false] (woR cs o n k) = .nils := ⟨by kernel_rfl, by kernel_rfl, by kernel_rfl⟩
theorem wo_val (hn : n ≤ 1000000) (hb : o + n ≤ cs.length) (hk : k < n) : ∃ v', (woR cs o n k).val = some v' ∧ l7 v' (.fy (.c (dropZ cs o n k)) 0 (n - 1) true) := by
  have e1 : kp k = .ofNat (k + 1) := by unfold kp; rw [bZ, iW (by omega)]
  have e2 : tlW cs o n k = tlZ cs o n (k + 1) := by unfold tlW tlZ; rw [e1]; rfl
  have l1 : (hdZ cs o k).length = k := by unfold hdZ; rw [List.length_take, List.length_drop]; omega
  have l2 : (tlW cs o n k).length = n - (k + 1) := by rw [e2, tlZ_len _ _ _ hb]
  have cA : xA n k = true := by
    unfold xA xsB
    simp only [Option.getD_some, Option.getD_none, Bool.and_eq_true, decide_eq_true_eq]
    have : (Int.ofNat k) = (k : Int) := rfl
    omega
  have cD : xD n k = true := by unfold xD; rw [e1]; exact xsB_lo (by show (0 : Int) ≤ ((k + 1 : Nat) : Int); omega) (by show ((k + 1 : Nat) : Int) ≤ (n : Int); omega)
  have cB : lB cs o k = true := by unfold lB; rw [decide_eq_true (by omega)]; rfl
  have cE : lE cs o n k = true := by unfold lE; rw [decide_eq_true (by omega)]; rfl
  have cF : fF cs o k = true := by unfold fF; rw [decide_eq_true (by omega), decide_eq_true (by omega)]; rfl
  have tk : (hdZ cs o k).take (hdZ cs o k).length = hdZ cs o k := List.take_length
  cases hC : gC cs o k with
  | true =>
    cases hG : gG cs o n k with
    | true => exact ⟨_, R.val_pv .nils (wo1 cs o n k).1 (by rw [(wo1 cs o n k).2.1, cA, cB, hC, cD, cE, cF, hG, tk, decide_eq_true (by rw [List.length_append]; omega)]) (wo1 cs o n k).2.2, l7.rows (m := (hdZ cs o k).length + (tlW cs o n k).length) (by unfold dropZ; rw [tk, e2]) (by omega)⟩
    | false =>
      have hz := of_decide_eq_false hG
      have e3 : tlZ cs o n (k + 1) = [] := List.eq_nil_of_length_eq_zero (by rw [← e2]; omega)
      exact ⟨_, R.val_pv .nils (wo2 cs o n k).1 (by rw [(wo2 cs o n k).2.1, cA, cB, hC, cD, cE, cF, hG, decide_eq_true (by omega)]) (wo2 cs o n k).2.2, l7.rows (m := (hdZ cs o k).length) (by unfold dropZ; rw [e3, List.append_nil]) (by omega)⟩
  | false =>
    have hz := of_decide_eq_false hC
    have e3 : hdZ cs o k = [] := List.eq_nil_of_length_eq_zero (by omega)
    cases hG : gG cs o n k with
    | true => exact ⟨_, R.val_pv .nils (wo3 cs o n k).1 (by rw [(wo3 cs o n k).2.1, cA, cB, hC, cD, cE, hG, decide_eq_true (by omega)]) (wo3 cs o n k).2.2, l7.rows (m := (tlW cs o n k).length) (by unfold dropZ; rw [e3, e2]; rfl) (by omega)⟩
    | false =>
      have hz2 := of_decide_eq_false hG
      refine ⟨_, R.val_pv .nils (wo4 cs o n k).1 (by rw [(wo4 cs o n k).2.1, cA, cB, hC, cD, cE, hG]) (wo4 cs o n k).2.2, ?_⟩
      have e4 : n - 1 = 0 := by omega
      rw [e4]
      exact fun β u hu => ⟨by omega, by omega, Or.inl ⟨_, _, hu, rfl⟩⟩
end
noncomputable def woS (l : List CV) (_ : Acc) : R CV := match l with
  | [.fy (.c cs) o n _, .int _ .i64 k] => .br ((decide (0 ≤ k) && decide (k < (n : Int))) && decide (n ≤ 1000000)) (.ok (.fy (.c (dropZ cs o n k.toNat)) 0 (n - 1) true)) .no
  | _ => .no
theorem wo_pur : bM Tryz.prog 86 woS := pe_pur cT6_ok (by kernel_rfl) (fun l V v h β us hu => by
  unfold woS at h
  split at h
  · rename_i cs o n u s k
    cases hd : ((decide (0 ≤ k) && decide (k < (n : Int))) && decide (n ≤ 1000000)) with
    | false => rw [hd] at h; simp [R.val] at h
    | true =>
      rw [hd] at h
      obtain rfl := Option.some.inj h
      simp only [Bool.and_eq_true, decide_eq_true_eq] at hd
      obtain ⟨k, rfl⟩ := Int.eq_ofNat_of_zero_le hd.1.1
      obtain ⟨u1, r1, rfl, q1, u2, r2, rfl, q2, e4⟩ := hu
      obtain ⟨v', h1, h2⟩ := wo_val cs o n k hd.2 q1.1 (by omega)
      exact ⟨[.fy (.c cs) o n true, .int true .i64 (.ofNat k)], v', ⟨u1, _, rfl, q1, u2, r2, rfl, ⟨q2.1, fun _ => iW (by omega)⟩, e4⟩, h1, h2⟩
  · simp [R.val] at h)
set_option maxRecDepth 20000
theorem pt_pur {CT : bQ} (hT : gV Tryz.prog CT) {f : FuncId} (hf : CT f = none) {s : List CV → Acc → R CV} (hs : ∀ (l : List CV) (V : Acc) (v : CV), (s l V).val = some v → pJ V = true ∧ ∀ (β : Names) (us : List Value), bJ β l us → ∃ l' v', bJ β l' us ∧ (pr CT f l' aV).val = some v' ∧ l7 v' v) : bM Tryz.prog f s := by
  intro l V v h β args w nx hG hR hV
  obtain ⟨ht, h2⟩ := hs l V v h
  obtain ⟨l', v', k1, k2, k3⟩ := h2 β _ hR
  exact fB (nY hT hf l' V v' (by show (purR Tryz.prog CT 20000 60 f l' V).val = _; rw [purR_V ht]; exact k2) β args w nx hG k1 hV) (fun u w' ⟨β', q1, q2, q3⟩ => ⟨β', q1, k3 _ _ q2, q3⟩)
noncomputable def idZ (t : iD) (j : Nat) : Int := aS (vJ j (resZ (pr cT0 134) [.agg (txC t)]))
noncomputable def cbB (t : iD) : Bool := yS (resZ (pr cT5 144) [.agg (txC t)])
noncomputable def ptZ (t : iD) (i : Nat) : List Int := (List.range 32).map (idZ t) ++ [(i : Int)]
noncomputable def outZ (t : iD) (h : Int) : List aJ := match t with
  | .cb q v x => [⟨ptZ (.cb q v x) 0, v, x, h, cbB (.cb q v x)⟩]
  | .sp1 o q w v x => [⟨ptZ (.sp1 o q w v x) 0, v, x, h, cbB (.sp1 o q w v x)⟩]
  | .sp2 o q w v x v' x' => [⟨ptZ (.sp2 o q w v x v' x') 0, v, x, h, cbB (.sp2 o q w v x v' x')⟩, ⟨ptZ (.sp2 o q w v x v' x') 1, v', x', h, cbB (.sp2 o q w v x v' x')⟩]
noncomputable def ouR (t : iD) (h : Int) : R CV := pr cT6 90 [.agg (txC t), .int true .i64 h] aV
theorem ou_val (t : iD) (h : Int) : (ouR t h).val = some (.fy (.c (outZ t h)) 0 t.outs.length true) := by
  cases t with
  | cb q v x => exact R.val_pv .nils (ds := [true]) (by kernel_rfl) (by kernel_rfl) (by kernel_rfl)
  | sp1 o q w v x => exact R.val_pv .nils (ds := [true]) (by kernel_rfl) (by kernel_rfl) (by kernel_rfl)
  | sp2 o q w v x v' x' => exact R.val_pv .nils (ds := [true, true]) (by kernel_rfl) (by kernel_rfl) (by kernel_rfl)
noncomputable def outS (l : List CV) (V : Acc) : R CV := match l with
  | [x, .int s .i64 h] => match txT x with
    | some t => match pJ V && wX s .i64 h with
      | true => .ok (.fy (.c (outZ t h)) 0 t.outs.length false)
      | false => .no
    | none => .no
  | _ => .no
theorem out_pur : bM Tryz.prog 90 outS := pt_pur cT6_ok (by kernel_rfl) (fun l V v h => by
  unfold outS at h
  split at h
  · rename_i x s h0
    split at h
    · rename_i t ht
      obtain rfl := txT_ok ht
      split at h
      · rename_i hb
        rw [Bool.and_eq_true] at hb
        obtain rfl := Option.some.inj h
        refine ⟨hb.1, fun β us hu => ?_⟩
        obtain ⟨u1, r1, rfl, q1, u2, r2, rfl, q2, e4⟩ := hu
        exact ⟨[.agg (txC t), .int true .i64 h0], _, ⟨u1, _, rfl, q1, u2, r2, rfl, ⟨q2.1, fun _ => gJ hb.2 q2.2⟩, e4⟩, ou_val t h0, fun _ _ hu => hu⟩
      · simp [R.val] at h
    · simp [R.val] at h
  · simp [R.val] at h)
noncomputable def cT7 : bQ := bT (bT cT6 90 outS) 86 woS
theorem cT7_ok : gV Tryz.prog cT7 := aG (aG cT6_ok out_pur) wo_pur
def eqC : CV → CV → Bool
  | .int false k (.ofNat n), .int false k' (.ofNat n') => Nat.beq (oQ k) (oQ k') && Nat.beq n n'
  | .nils, .nils => true
  | _, _ => false
def lQ : List CV → List CV → Option (List Int)
  | [], [] => some []
  | .int true k _ :: T, .int true k' z :: l => match Nat.beq (oQ k) (oQ k'), lQ T l with
    | true, some r => some (z :: r)
    | _, _ => none
  | t :: T, c :: l => match eqC t c, lQ T l with
    | true, some r => some r
    | _, _ => none
  | _, _ => none
def fillT : List CV → List Int → List CV
  | .int true k _ :: T, z :: zs => .int true k z :: fillT T zs
  | t :: T, zs => t :: fillT T zs
  | [], _ => []
theorem eqC_ok {a b : CV} (h : eqC a b = true) : a = b := by
  unfold eqC at h
  split at h
  · rw [Bool.and_eq_true] at h
    obtain rfl := eQ h.1
    rw [Nat.eq_of_beq_eq_true h.2]
  · rfl
  · simp at h
theorem fillT_eq {t : CV} (ht : ∀ k z, t ≠ .int true k z) (T : List CV) (zs : List Int) : fillT (t :: T) zs = t :: fillT T zs := by
  cases t with
  | int s k z =>
    cases s with
    | true => exact absurd rfl (ht k z)
    | false => cases zs <;> rfl
  | _ => cases zs <;> rfl
theorem uY : ∀ {T l : List CV} {zs : List Int}, lQ T l = some zs → l = fillT T zs
  | [], [], zs, h => rfl
  | [], _ :: _, zs, h => by simp [lQ] at h
  | t :: T, [], zs, h => by
    cases t with
    | int s k z => cases s <;> simp [lQ] at h
    | _ => simp [lQ] at h
  | t :: T, c :: l, zs, h => by
    have gen : (∀ k z, t ≠ .int true k z) → (match eqC t c, lQ T l with
      | true, some r => some r
      | _, _ => none) = some zs → c :: l = fillT (t :: T) zs := fun ht h => by
      split at h
      · rename_i r he hr
        obtain rfl := Option.some.inj h
        rw [fillT_eq ht, ← uY hr, eqC_ok he]
      · simp at h
    cases t with
    | int s k z =>
      cases s with
      | false => exact gen (by simp) (by simpa only [lQ] using h)
      | true =>
        cases c with
        | int s' k' z' =>
          cases s' with
          | true =>
            simp only [lQ] at h
            split at h
            · rename_i r hk hr
              obtain rfl := eQ hk
              obtain rfl := Option.some.inj h
              rw [uY hr]; rfl
            · simp at h
          | false => simp [lQ, eqC] at h
        | _ => simp [lQ, eqC] at h
    | _ => exact gen (by simp) (by simpa only [lQ] using h)
def parC (tm W H M : Int) : List CV := .int false .u32 1 :: List.replicate 64 (.int false .u8 0) ++ [.int true .u32 tm, .int false .u32 545259519, .int false .u32 0, .int false .u64 18446744073709551615, .int false .u64 18446744073709551615, .int false .u64 18446744073709551615, .int false .u64 9223372036854775807, .int true .i64 W, .int false .u32 5, .int false .u32 600, .int false .u32 1, .nils, .int false .i64 1000, .int true .i64 H, .int true .i64 M]
def parT (l : List CV) : Option (Int × Int × Int × Int) := match lQ (parC 0 0 0 0) l with
  | some [a, b, c, d] => some (a, b, c, d)
  | _ => none
theorem yU {l : List CV} {a b c d : Int} (h : parT l = some (a, b, c, d)) : l = parC a b c d := by
  unfold parT at h
  split at h
  · rename_i h1
    simp only [Option.some.injEq, Prod.mk.injEq] at h
    obtain ⟨rfl, rfl, rfl, rfl⟩ := h
    exact uY h1
  · simp at h
section
variable (tm W H M : Int) (cs : List aJ) (o n : Nat) (t : iD) (h : Int)
def iD.key : iD → List Int
  | .cb _ _ _ => []
  | .sp1 o _ _ _ _ => (List.range 33).map fun j => o.getD j 0
  | .sp2 o _ _ _ _ _ _ => (List.range 33).map fun j => o.getD j 0
noncomputable def spR : R CV := pe cT7 84 [.agg (parC tm W H M), .fy (.c cs) o n true, .agg (txC t), .int true .i64 h]
noncomputable def spK : Int := rQ cs t.key o n
noncomputable def spC : aJ := oM (cs.getD (o + (spK cs o n t).toNat) cn0)
def ck0 (z : Int) (n : Nat) : Bool := decide (0 ≤ z) && decide (z < (n : Int))
def iD.isSp : iD → Bool
  | .cb _ _ _ => false
  | _ => true
noncomputable def spB : Bool := (spC cs o n t).c && decide (gSub .i64 h (spC cs o n t).h < M)
theorem findZ_lt {cs : List aJ} {os : List Int} {o n : Nat} (h : ¬ rQ cs os o n < 0) : 0 ≤ rQ cs os o n ∧ rQ cs os o n < (n : Int) := by
  unfold rQ at *
  split
  · rename_i i hi
    have := List.mem_range.1 (List.mem_of_find?_eq_some hi)
    exact ⟨by show (0 : Int) ≤ ((i : Nat) : Int); omega, by show ((i : Nat) : Int) < _; omega⟩
  · rename_i hi
    rw [hi] at h
    simp at h
noncomputable def spD : aJ := ⟨t.key, (spC cs o n t).v, (spC cs o n t).x, (spC cs o n t).h, (spC cs o n t).c⟩
theorem foldr_and {f : Nat → Bool} : ∀ {l : List Nat}, l.foldr (fun j r => f j && r) true = true → ∀ j ∈ l, f j = true
  | [], _, j, hj => by simp at hj
  | x :: l, h, j, hj => by
    simp only [List.foldr, Bool.and_eq_true] at h
    rcases List.mem_cons.1 hj with rfl | hj
    · exact h.1
    · exact foldr_and h.2 j hj
theorem keyEq_row {a : List Int} {f : Nat → Int} (h : keyEq a ((List.range 33).map f) = true) : (List.range 33).map (fun j => a.getD j 0) = (List.range 33).map f := by
  refine List.map_congr_left (fun j hj => ?_)
  have k := eq_of_beq (foldr_and h j hj)
  rw [k, List.getD_eq_getElem?_getD, List.getElem?_map, List.getElem?_range (List.mem_range.1 hj)]
  rfl
theorem spD_eq (ht : t.isSp = true) (hz : ¬ spK cs o n t < 0) : spC cs o n t = spD cs o n t := by
  have hh : hit cs t.key o (spK cs o n t).toNat = true := by
    unfold spK rQ at *
    split
    · rename_i i hi
      exact List.find?_some hi
    · rename_i hi
      rw [hi] at hz
      simp at hz
  have ho : (spC cs o n t).o = t.key := by
    cases t with
    | cb _ _ _ => simp [iD.isSp] at ht
    | sp1 q _ _ _ _ => exact keyEq_row (f := fun j => q.getD j 0) hh
    | sp2 q _ _ _ _ _ _ => exact keyEq_row (f := fun j => q.getD j 0) hh
  unfold spD
  rw [← ho]
theorem sp1 (ht : t.isSp = true) : R.okp [true] (spR tm W H M cs o n t h) = true ∧ R.cds [true] (spR tm W H M cs o n t h) = [decide (spK cs o n t < 0)] ∧ R.lfp .nils [true] (spR tm W H M cs o n t h) = .tup [.nils, .int false .i64 101] := by
  cases t with
  | cb _ _ _ => simp [iD.isSp] at ht
  | sp1 _ _ _ _ _ => exact ⟨by kernel_rfl, by kernel_rfl, by kernel_rfl⟩
  | sp2 _ _ _ _ _ _ _ => exact ⟨by kernel_rfl, by kernel_rfl, by kernel_rfl⟩
theorem sp2 (ht : t.isSp = true) : R.okp [false, true, true, true, true, true, true] (spR tm W H M cs o n t h) = true ∧ R.cds [false, true, true, true, true, true, true] (spR tm W H M cs o n t h) = [decide (spK cs o n t < 0), ck0 (spK cs o n t) n, true, true, true, (spC cs o n t).c, decide (gSub .i64 h (spC cs o n t).h < M)] ∧ R.lfp .nils [false, true, true, true, true, true, true] (spR tm W H M cs o n t h) = .tup [.nils, .int false .i64 230] := by
  cases t with
  | cb _ _ _ => simp [iD.isSp] at ht
  | sp1 _ _ _ _ _ => exact ⟨by kernel_rfl, by kernel_rfl, by kernel_rfl⟩
  | sp2 _ _ _ _ _ _ _ => exact ⟨by kernel_rfl, by kernel_rfl, by kernel_rfl⟩
theorem sp3 (ht : t.isSp = true) : R.okp [false, true, true, true, true, true, false, false, true] (spR tm W H M cs o n t h) = true ∧ R.cds [false, true, true, true, true, true, false, false, true] (spR tm W H M cs o n t h) = [decide (spK cs o n t < 0), ck0 (spK cs o n t) n, true, true, true, (spC cs o n t).c, decide (gSub .i64 h (spC cs o n t).h < M), false, true] ∧ R.lfp .nils [false, true, true, true, true, true, false, false, true] (spR tm W H M cs o n t h) = .tup [.fy (.c [spC cs o n t]) 0 1 true, .int false .i64 0] := by
  cases t with
  | cb _ _ _ => simp [iD.isSp] at ht
  | sp1 _ _ _ _ _ => exact ⟨by kernel_rfl, by kernel_rfl, by kernel_rfl⟩
  | sp2 _ _ _ _ _ _ _ => exact ⟨by kernel_rfl, by kernel_rfl, by kernel_rfl⟩
theorem sp4 (ht : t.isSp = true) : R.okp [false, true, true, true, true, false, false, true] (spR tm W H M cs o n t h) = true ∧ R.cds [false, true, true, true, true, false, false, true] (spR tm W H M cs o n t h) = [decide (spK cs o n t < 0), ck0 (spK cs o n t) n, true, true, true, (spC cs o n t).c, false, true] ∧ R.lfp .nils [false, true, true, true, true, false, false, true] (spR tm W H M cs o n t h) = .tup [.fy (.c [spC cs o n t]) 0 1 true, .int false .i64 0] := by
  cases t with
  | cb _ _ _ => simp [iD.isSp] at ht
  | sp1 _ _ _ _ _ => exact ⟨by kernel_rfl, by kernel_rfl, by kernel_rfl⟩
  | sp2 _ _ _ _ _ _ _ => exact ⟨by kernel_rfl, by kernel_rfl, by kernel_rfl⟩
noncomputable def spT : R CV := .br (decide (spK cs o n t < 0)) (.ok (.tup [.nils, .int false .i64 101])) (.br (spB M cs o n t h) (.ok (.tup [.nils, .int false .i64 230])) (.ok (.tup [.fy (.c [spD cs o n t]) 0 1 false, .int false .i64 0])))
theorem sp_val (ht : t.isSp = true) {v : CV} (hv : (spT M cs o n t h).val = some v) : ∃ v', (spR tm W H M cs o n t h).val = some v' ∧ l7 v' v := by
  unfold spT at hv
  cases h1 : decide (spK cs o n t < 0) with
  | true =>
    rw [h1] at hv
    obtain rfl := Option.some.inj hv
    exact ⟨_, R.val_pv .nils (sp1 tm W H M cs o n t h ht).1 (by rw [(sp1 tm W H M cs o n t h ht).2.1, h1]) (sp1 tm W H M cs o n t h ht).2.2, l7.rfl_ _⟩
  | false =>
    rw [h1] at hv
    have hz : ck0 (spK cs o n t) n = true := by
      have := findZ_lt (of_decide_eq_false h1)
      unfold ck0 spK
      rw [decide_eq_true this.1, decide_eq_true this.2]; rfl
    cases h2 : (spC cs o n t).c with
    | false =>
      have hb : spB M cs o n t h = false := by unfold spB; rw [h2]; rfl
      rw [hb] at hv
      obtain rfl := Option.some.inj hv
      exact ⟨.tup [.fy (.c [spC cs o n t]) 0 1 true, .int false .i64 0], R.val_pv .nils (sp4 tm W H M cs o n t h ht).1 (by rw [(sp4 tm W H M cs o n t h ht).2.1, h1, hz, h2]) (sp4 tm W H M cs o n t h ht).2.2, by rw [← spD_eq cs o n t ht (of_decide_eq_false h1)]; exact fun _ _ hu => hu⟩
    | true =>
      cases h3 : decide (gSub .i64 h (spC cs o n t).h < M) with
      | true =>
        have hb : spB M cs o n t h = true := by unfold spB; rw [h2, h3]; rfl
        rw [hb] at hv
        obtain rfl := Option.some.inj hv
        exact ⟨_, R.val_pv .nils (sp2 tm W H M cs o n t h ht).1 (by rw [(sp2 tm W H M cs o n t h ht).2.1, h1, hz, h2, h3]) (sp2 tm W H M cs o n t h ht).2.2, l7.rfl_ _⟩
      | false =>
        have hb : spB M cs o n t h = false := by unfold spB; rw [h2, h3]; rfl
        rw [hb] at hv
        obtain rfl := Option.some.inj hv
        exact ⟨.tup [.fy (.c [spC cs o n t]) 0 1 true, .int false .i64 0], R.val_pv .nils (sp3 tm W H M cs o n t h ht).1 (by rw [(sp3 tm W H M cs o n t h ht).2.1, h1, hz, h2, h3]) (sp3 tm W H M cs o n t h ht).2.2, by rw [← spD_eq cs o n t ht (of_decide_eq_false h1)]; exact fun _ _ hu => hu⟩
end
noncomputable def spS (l : List CV) (_ : Acc) : R CV := match l with
  | [.agg pl, .fy (.c cs) o n _, x, .int s .i64 h] => match parT pl, txT x with
    | some (_, _, _, M), some t => match t.isSp && wX s .i64 h with
      | true => spT M cs o n t h
      | false => .no
    | _, _ => .no
  | _ => .no
theorem spent_pur : bM Tryz.prog 84 spS := pe_pur cT7_ok (by kernel_rfl) (fun l V v hh β us hu => by
  unfold spS at hh
  split at hh
  · split at hh
    · rename_i pl cs o n u x s h _ _ tm W H M t hp ht
      obtain rfl := yU hp
      obtain rfl := txT_ok ht
      split at hh
      · rename_i hb
        rw [Bool.and_eq_true] at hb
        obtain ⟨v', k1, k2⟩ := sp_val tm W H M cs o n t h hb.1 hh
        obtain ⟨u1, r1, rfl, q1, u2, r2, rfl, q2, u3, r3, rfl, q3, u4, r4, rfl, q4, e5⟩ := hu
        exact ⟨[.agg (parC tm W H M), .fy (.c cs) o n true, .agg (txC t), .int true .i64 h], v', ⟨u1, _, rfl, q1, u2, _, rfl, q2, u3, _, rfl, q3, u4, _, rfl, ⟨q4.1, fun _ => gJ hb.2 q4.2⟩, e5⟩, k1, k2⟩
      · simp [R.val] at hh
    · simp [R.val] at hh
  · simp [R.val] at hh)
def ck10 (l : List CV) : Bool := match l with
  | [x, .fy (.c [_]) 0 1 false, .int true .i64 _] => (txT x).isSome
  | _ => false
def ck10K : Sk := .tup [.i .i64, .i .i64]
noncomputable def ckrN : List CV → Acc → R CV := nmS (pr cT7 85) ck10 ck10K
theorem txT_some {x : CV} (h : (txT x).isSome = true) : ∃ t, x = .agg (txC t) := by
  obtain ⟨t, ht⟩ := Option.isSome_iff_exists.1 h
  exact ⟨t, txT_ok ht⟩
theorem chN_pur : bM Tryz.prog 85 ckrN := pI (nY cT7_ok (by kernel_rfl)) (fun l h => by
  unfold ck10 at h
  split at h
  · rename_i x c z
    obtain ⟨t, rfl⟩ := txT_some h
    cases t with
    | cb q v x => kernel_rfl
    | sp1 o q w v x => kernel_rfl
    | sp2 o q w v x v' x' => kernel_rfl
  · simp at h)
noncomputable def wk3 (s : List CV → Acc → R CV) (l : List CV) (V : Acc) : R CV := match l with
  | [a, b, .int f k h] => match wX f k h with
    | true => s [a, b, .int true k h] V
    | false => .no
  | _ => .no
theorem wk3_ok {P : Program} {f : FuncId} {s : List CV → Acc → R CV} (hs : bM P f s) : bM P f (wk3 s) := by
  intro l V v h β args w nx hG hR hV
  unfold wk3 at h
  split at h
  · rename_i a b f k h0
    split at h
    · rename_i hr
      refine hs _ V v h β args w nx hG ?_ hV
      obtain ⟨u1, r1, e1, q1, u2, r2, e2, q2, u3, r3, e3, q3, e4⟩ := hR
      exact ⟨u1, _, e1, q1, u2, _, e2, q2, u3, _, e3, ⟨q3.1, fun _ => gJ hr q3.2⟩, e4⟩
    · simp [R.val] at h
  · simp [R.val] at h
noncomputable def ckrS : List CV → Acc → R CV := wk3 ckrN
theorem chS_pur : bM Tryz.prog 85 ckrS := wk3_ok chN_pur
noncomputable def cT8 : bQ := bT (bT cT7 84 spS) 85 ckrS
theorem cT8_ok : gV Tryz.prog cT8 := aG (aG cT7_ok spent_pur) chS_pur
set_option maxRecDepth 20000
mutual
def jK : CV → Bool
  | .bool _ _ => true
  | .int _ _ _ => true
  | .agg l => bareL l
  | .tup l => bareL l
  | _ => false
def bareL : List CV → Bool
  | [] => true
  | c :: l => match jK c with
    | true => bareL l
    | false => false
end
mutual
theorem bareC_ok {β β' : Names} : ∀ {c : CV} {v : Value}, jK c = true → RV β c v → RV β' c v
  | .bool _ _, _, _, h => h
  | .int _ _ _, _, _, h => h
  | .agg _, _, hb, ⟨us, e, h⟩ => ⟨us, e, bareL_ok hb h⟩
  | .tup _, _, hb, ⟨us, e, h⟩ => ⟨us, e, bareL_ok hb h⟩
  | .str _, _, hb, _ => by simp [jK] at hb
  | .fz _ _ _, _, hb, _ => by simp [jK] at hb
  | .fp _ _, _, hb, _ => by simp [jK] at hb
  | .fy _ _ _ _, _, hb, _ => by simp [jK] at hb
  | .fq _ _ _, _, hb, _ => by simp [jK] at hb
  | .st _, _, hb, _ => by simp [jK] at hb
  | .es, _, hb, _ => by simp [jK] at hb
  | .xs _ _ _ _ _, _, hb, _ => by simp [jK] at hb
  | .px _ _ _, _, hb, _ => by simp [jK] at hb
  | .ptr _ _, _, hb, _ => by simp [jK] at hb
  | .nilp, _, hb, _ => by simp [jK] at hb
  | .sl _ _ _ _ _, _, hb, _ => by simp [jK] at hb
  | .nils, _, hb, _ => by simp [jK] at hb
  | .fn _ _, _, hb, _ => by simp [jK] at hb
  | .nilf, _, hb, _ => by simp [jK] at hb
  | .mp _, _, hb, _ => by simp [jK] at hb
  | .nilm, _, hb, _ => by simp [jK] at hb
  | .wr _, _, hb, _ => by simp [jK] at hb
  | .fx _ _ _ _ _ _, _, hb, _ => by simp [jK] at hb
theorem bareL_ok {β β' : Names} : ∀ {l : List CV} {us : List Value}, bareL l = true → bJ β l us → bJ β' l us
  | [], _, _, h => h
  | c :: l, _, hb, ⟨u, r, e, h1, h2⟩ => by
    unfold bareL at hb
    split at hb
    · rename_i hc
      exact ⟨u, r, e, bareC_ok hc h1, bareL_ok hb h2⟩
    · simp at hb
end
def lendC (V : Acc) : CV → CV
  | .sl g o n c lo => match V g with
    | some (.cells l _ _) => match Nat.ble n c with
      | true => .fz l o n
      | false => .sl g o n c lo
    | _ => .sl g o n c lo
  | c => c
def lendL (V : Acc) : List CV → List CV
  | [] => []
  | c :: l => lendC V c :: lendL V l
def lentN (V : Acc) (β : Names) (w : World) : Names := ⟨β.ad, β.sz, fun a us => β.sx a us ∨ ∃ g, V g ≠ none ∧ β.ad g = some a ∧ ∃ e lo hi, w.heap[a]? = some (.cells us.toArray e (lo, hi)) ∧ (lo = hi ∨ us.length ≤ lo), fun a => β.fp a ∨ ∃ g, V g ≠ none ∧ β.ad g = some a⟩
theorem yM {V : Acc} {β : Names} {w : World} : Sub β (lentN V β w) := ⟨fun _ _ h => ⟨h, rfl⟩, fun _ _ h => Or.inl h⟩
theorem lent_hv {V : Acc} {β : Names} {w : World} (h : HV V β w) : HV (fun _ => none) (lentN V β w) w := by
  refine ⟨fun n o ho => by simp at ho, fun n m a hn => by simp at hn, fun a ha => ⟨?_, fun n hn => by simp at hn⟩, fun a us hs w' hw => ?_⟩
  · rcases ha with q | ⟨g, q1, q2⟩
    · exact (h.fpa a q).1
    · exact h.lt q1 q2
  · rcases hs with q | ⟨g, q1, q2, e, lo, hi, k1, k2⟩
    · exact h.sxf a us q w' (fun a ha => hw a (Or.inl ha))
    · exact .of (e := e) (fr := (lo, hi)) (by rw [hw a (Or.inr ⟨g, q1, q2⟩)]; exact k1)
theorem lendC_ok {V : Acc} {β : Names} {w : World} (h : HV V β w) {c : CV} {v : Value} (hc : RV β c v) : RV (lentN V β w) (lendC V c) v := by
  unfold lendC
  split
  · rename_i g o n c lo
    split
    · rename_i l e room hl
      split
      · rename_i hb
        have hb := dK hb
        obtain ⟨a, c', h1, h2, h3, _, _⟩ := hc
        obtain ⟨a', ob, k1, k2, ⟨cs, lo', hi', rfl, k3, k4, k5, k6⟩, _⟩ := h.at_ g _ hl
        rw [h1] at k1
        obtain rfl := Option.some.inj k1
        refine ⟨a, o, c', cs.toList, h2, by omega, Or.inr rfl, Or.inr ⟨g, by rw [hl]; simp, h1, e, lo', hi', k2, ?_⟩, bJ.of_get ?_ (fun i x hx => ?_)⟩
        · simpa using k5
        · have e1 : cs.toList.length = cs.size := Array.length_toList
          rw [List.length_take]; omega
        · obtain ⟨u, q1, q2⟩ := k6 i x hx
          refine ⟨u, ?_, q2.mono yM⟩
          have := (List.getElem?_eq_some_iff.1 hx).1
          rw [List.getElem?_take, if_pos this, Array.getElem?_toList]
          exact q1
      · exact hc.mono yM
    · exact hc.mono yM
  · exact hc.mono yM
theorem lendL_ok {V : Acc} {β : Names} {w : World} (h : HV V β w) : ∀ {l : List CV} {us : List Value}, bJ β l us → bJ (lentN V β w) (lendL V l) us
  | [], _, hu => hu
  | _ :: _, _, ⟨u, r, e, h1, h2⟩ => ⟨u, r, e, lendC_ok h h1, lendL_ok h h2⟩
noncomputable def bareR (v : CV) : R CV := match jK v with
  | true => .ok v
  | false => .no
noncomputable def lendS (s : List CV → Acc → R CV) (l : List CV) (V : Acc) : R CV := (s (lendL V l) (fun _ => none)).bind bareR
theorem lendS_ok {P : Program} {f : FuncId} {s : List CV → Acc → R CV} (hs : bM P f s) : bM P f (lendS s) := by
  intro l V v h β args w nx hG hR hV
  unfold lendS at h
  obtain ⟨x, h1, h2⟩ := R.bind_some h
  unfold bareR at h2
  split at h2
  · rename_i hb
    obtain rfl := Option.some.inj h2
    refine fB (hs _ _ _ h1 (lentN V β w) args w nx hG (lendL_ok hV hR) (lent_hv hV)) (fun u w' ⟨β', q1, q2, q3⟩ => ?_)
    have tr : pK β β nx nx [] w w' := ⟨fun _ _ => ⟨rfl, rfl⟩, fun _ _ h => h, fun _ h => h, fun _ h => Or.inl h, Nat.le_refl _, q1.upd.mono (fun _ ⟨_, hp, _⟩ => absurd hp List.not_mem_nil), fun m a h1 h2 => by omega⟩
    have up : ∀ a, a < w.heap.size → w'.heap[a]? = w.heap[a]? := fun a ha => tr.upd.block a ha (fun ⟨p, hp, _⟩ => by simp at hp)
    refine ⟨β, tr, bareC_ok hb q2, fun n o ho => ?_, hV.inj, fun a ha => ⟨Nat.lt_of_lt_of_le (hV.fpa a ha).1 tr.upd.size, (hV.fpa a ha).2⟩, fun a us ha w2 hw => hV.sxf a us ha w2 (fun b hb => (hw b hb).trans (up b (hV.fpa b hb).1))⟩
    obtain ⟨a, ob, k1, k2, k3, k4⟩ := hV.at_ n o ho
    exact ⟨a, ob, k1, by rw [up a (Array.getElem?_eq_some_iff.1 k2).1]; exact k2, k3, k4⟩
  · simp [R.val] at h2
set_option maxRecDepth 20000
inductive Kn1 where
  | ek | ec | ee | rq | tr
def sN (zs : List CV) (v : CV) : Option Int := match v with
  | .tup l => match zs, l with
    | [a, b], [x, y, .int s .i64 e] => match (eqZ a x && eqZ b y) && wX s .i64 e with
      | true => some e
      | false => none
    | _, _ => none
  | _ => none
  where
  eqZ : CV → CV → Bool
    | .agg l, .agg m => match lQ l m with
      | some [] => true
      | _ => false
    | _, _ => false
def nzI : Int → Bool
  | .ofNat n => Nat.blt 0 n
  | .negSucc _ => true
noncomputable def leafR (r : R CV) : Option CV := R.rec none (fun v => some v) (fun _ _ _ _ _ => none) r
noncomputable def ekR (zs : List CV) (r : R CV) : Bool := match leafR r with
  | some v => match sN zs v with
    | some e => nzI e
    | none => false
  | none => false
noncomputable def ecR (zs : List CV) (r : R CV) : Option Int := match leafR r with
  | some v => sN zs v
  | none => none
noncomputable def spX {γ : Type} (zs : List CV) (g : CV → Option γ) (ks : List Kn1) : R CV → Option ((List Bool × List Bool) × List Bool × γ) := List.rec (fun r => match leafR r with
    | some v => match g v with
      | some m => some (([], []), [], m)
      | none => none
    | none => none) (fun k _ ih r => R.rec none (fun _ => none) (fun c a b _ _ => match k with
      | .ek => match ekR zs a with
        | true => ih b
        | false => none
      | .ec => match ecR zs a with
        | some e => match ih b with
          | some ((x, y), cs, m) => some ((c :: x, (!decide (e = 0)) :: y), cs, m)
          | none => none
        | none => none
      | .ee => match ekR zs a with
        | true => match ih b with
          | some (p, cs, m) => some (p, c :: cs, m)
          | none => none
        | false => none
      | .rq => match ih a with
        | some (p, cs, m) => some (p, c :: cs, m)
        | none => none
      | .tr => match c with
        | true => ih a
        | false => none) r) ks
def spQ : List Kn1 → List Bool → Prop
  | [], _ => True
  | .ee :: ks, c :: cs => c = false → spQ ks cs
  | .rq :: ks, c :: cs => c = true ∧ spQ ks cs
  | .ee :: _, [] => False
  | .rq :: _, [] => False
  | _ :: ks, cs => spQ ks cs
def spF : List Kn1 → List Bool → Prop
  | .ee :: ks, c :: cs => c = false ∧ spF ks cs
  | .rq :: ks, c :: cs => c = true ∧ spF ks cs
  | .ek :: ks, cs => spF ks cs
  | .ec :: ks, cs => spF ks cs
  | .tr :: ks, cs => spF ks cs
  | _, _ => True
theorem leafR_ok {r : R CV} {v : CV} (h : leafR r = some v) : r.val = some v := by
  cases r with
  | ok x => exact h
  | no => simp [leafR] at h
  | br c a b => simp [leafR] at h
theorem ekR_ok {zs : List CV} {r : R CV} (h : ekR zs r = true) : ∃ v e, r.val = some v ∧ sN zs v = some e ∧ e ≠ 0 := by
  unfold ekR at h
  split at h
  · rename_i v hv
    split at h
    · rename_i e he
      refine ⟨v, e, leafR_ok hv, he, fun h0 => ?_⟩
      subst h0
      simp [nzI, Nat.blt] at h
    · simp at h
  · simp at h
theorem spX_ok {γ : Type} {zs : List CV} {g : CV → Option γ} : ∀ {ks : List Kn1} {r : R CV} {x y cs : List Bool} {m : γ}, spX zs g ks r = some ((x, y), cs, m) → x = y → spQ ks cs → ∃ v, r.val = some v ∧ ((∃ e, sN zs v = some e ∧ e ≠ 0) ∨ (g v = some m ∧ spF ks cs))
  | [], r, x, y, cs, m, h, _, _ => by
    have h' : (match leafR r with
      | some v => match g v with
        | some m => some ((([], []), [], m) : (List Bool × List Bool) × List Bool × γ)
        | none => none
      | none => none) = some ((x, y), cs, m) := h
    split at h'
    · rename_i v hv
      split at h'
      · rename_i m' hm
        simp only [Option.some.injEq, Prod.mk.injEq] at h'
        obtain ⟨_, _, rfl⟩ := h'
        exact ⟨v, leafR_ok hv, Or.inr ⟨hm, trivial⟩⟩
      · simp at h'
    · simp at h'
  | k :: ks, .no, x, y, cs, m, h, _, _ => by simp [spX] at h
  | k :: ks, .ok _, x, y, cs, m, h, _, _ => by simp [spX] at h
  | .ek :: ks, .br c a b, x, y, cs, m, h, hxy, hq => by
    have h' : (match ekR zs a with
        | true => spX zs g ks b
        | false => none) = some ((x, y), cs, m) := h
    split at h'
    · rename_i hk
      cases c with
      | true =>
        obtain ⟨v, e, h1, h2⟩ := ekR_ok hk
        exact ⟨v, h1, Or.inl ⟨e, h2⟩⟩
      | false => exact spX_ok (ks := ks) (r := b) h' hxy hq
    · simp at h'
  | .ec :: ks, .br c a b, x, y, cs, m, h, hxy, hq => by
    have h' : (match ecR zs a with
        | some e => match spX zs g ks b with
          | some ((x, y), cs, m) => some ((c :: x, (!decide (e = 0)) :: y), cs, m)
          | none => none
        | none => none) = some ((x, y), cs, m) := h
    split at h'
    · rename_i e he
      split at h'
      · rename_i x' y' cs' m' hi
        simp only [Option.some.injEq, Prod.mk.injEq] at h'
        obtain ⟨⟨rfl, rfl⟩, rfl, rfl⟩ := h'
        simp only [List.cons.injEq] at hxy
        unfold ecR at he
        split at he
        · rename_i v hv
          cases c with
          | true =>
            refine ⟨v, leafR_ok (r := a) hv, Or.inl ⟨e, he, fun h0 => ?_⟩⟩
            rw [h0] at hxy
            simp at hxy
          | false => exact spX_ok (ks := ks) (r := b) hi hxy.2 hq
        · simp at he
      · simp at h'
    · simp at h'
  | .ee :: ks, .br c a b, x, y, cs, m, h, hxy, hq => by
    have h' : (match ekR zs a with
        | true => match spX zs g ks b with
          | some (p, cs, m) => some (p, c :: cs, m)
          | none => none
        | false => none) = some ((x, y), cs, m) := h
    split at h'
    · rename_i hk
      split at h'
      · rename_i p cs' m' hi
        simp only [Option.some.injEq, Prod.mk.injEq] at h'
        obtain ⟨rfl, rfl, rfl⟩ := h'
        cases c with
        | true =>
          obtain ⟨v, e, h1, h2⟩ := ekR_ok hk
          exact ⟨v, h1, Or.inl ⟨e, h2⟩⟩
        | false =>
          obtain ⟨v, h1, h2⟩ := spX_ok (ks := ks) (r := b) hi hxy (hq rfl)
          exact ⟨v, h1, h2.imp (fun q => q) (fun q => ⟨q.1, rfl, q.2⟩)⟩
      · simp at h'
    · simp at h'
  | .rq :: ks, .br c a b, x, y, cs, m, h, hxy, hq => by
    have h' : (match spX zs g ks a with
        | some (p, cs, m) => some (p, c :: cs, m)
        | none => none) = some ((x, y), cs, m) := h
    split at h'
    · rename_i p cs' m' hi
      simp only [Option.some.injEq, Prod.mk.injEq] at h'
      obtain ⟨rfl, rfl, rfl⟩ := h'
      obtain ⟨rfl, hq⟩ := hq
      obtain ⟨v, h1, h2⟩ := spX_ok (ks := ks) (r := a) hi hxy hq
      exact ⟨v, h1, h2.imp (fun q => q) (fun q => ⟨q.1, rfl, q.2⟩)⟩
    · simp at h'
  | .tr :: ks, .br c a b, x, y, cs, m, h, hxy, hq => by
    cases c with
    | true => exact spX_ok (ks := ks) (r := a) h hxy hq
    | false =>
      have h' : (none : Option ((List Bool × List Bool) × List Bool × γ)) = some ((x, y), cs, m) := h
      simp at h'
noncomputable def cT9 : bQ := bT (bT cT8 193 (jpx cT8 193)) 195 (lendS (jpx cT8 195))
theorem cT9_ok : gV Tryz.prog cT9 := aG (aG cT8_ok (nM cT8_ok (by kernel_rfl))) (lendS_ok (nM cT8_ok (by kernel_rfl)))
noncomputable def cTa : bQ := bT (bT (bT cT9 196 (lendS (jpx cT9 196))) 197 (jpx cT9 197)) 97 (jpx cT9 97)
theorem cTa_ok : gV Tryz.prog cTa := aG (aG (aG cT9_ok (lendS_ok (nM cT9_ok (by kernel_rfl)))) (nM cT9_ok (by kernel_rfl))) (nM cT9_ok (by kernel_rfl))
def subL (tm W M : Int) (a b : Nat) : List CV := [.agg (setP 78 (.int false .i64 (.ofNat a)) (parC tm W 0 M)), .int false .i64 (.ofNat b)]
theorem sub_4 (tm W M : Int) : ∀ b : Nat, b ≤ 9 → meet (.i .i64) (jn (pr cTa 78 (subL tm W M 4 b) aV)) = true
  | 0, _ => by kernel_rfl
  | 1, _ => by kernel_rfl
  | 2, _ => by kernel_rfl
  | 3, _ => by kernel_rfl
  | 4, _ => by kernel_rfl
  | 5, _ => by kernel_rfl
  | 6, _ => by kernel_rfl
  | 7, _ => by kernel_rfl
  | 8, _ => by kernel_rfl
  | 9, _ => by kernel_rfl
  | _ + 10, h => absurd h (by omega)
theorem sub_5 (tm W M : Int) : ∀ b : Nat, b ≤ 9 → meet (.i .i64) (jn (pr cTa 78 (subL tm W M 5 b) aV)) = true
  | 0, _ => by kernel_rfl
  | 1, _ => by kernel_rfl
  | 2, _ => by kernel_rfl
  | 3, _ => by kernel_rfl
  | 4, _ => by kernel_rfl
  | 5, _ => by kernel_rfl
  | 6, _ => by kernel_rfl
  | 7, _ => by kernel_rfl
  | 8, _ => by kernel_rfl
  | 9, _ => by kernel_rfl
  | _ + 10, h => absurd h (by omega)
theorem sub_6 (tm W M : Int) : ∀ b : Nat, b ≤ 9 → meet (.i .i64) (jn (pr cTa 78 (subL tm W M 6 b) aV)) = true
  | 0, _ => by kernel_rfl
  | 1, _ => by kernel_rfl
  | 2, _ => by kernel_rfl
  | 3, _ => by kernel_rfl
  | 4, _ => by kernel_rfl
  | 5, _ => by kernel_rfl
  | 6, _ => by kernel_rfl
  | 7, _ => by kernel_rfl
  | 8, _ => by kernel_rfl
  | 9, _ => by kernel_rfl
  | _ + 10, h => absurd h (by omega)
noncomputable def subZ (tm W H M h : Int) : Int := aS (resZ (pr cTa 78) (subL tm W M H.toNat h.toNat))
def pG (H h : Int) : Bool := (decide (4 ≤ H) && decide (H ≤ 6)) && (decide (0 ≤ h) && decide (h ≤ 9))
noncomputable def subS (l : List CV) (V : Acc) : R CV := match l with
  | [.agg pl, .int _ .i64 h] => match parT pl, pJ V with
    | some (tm, W, H, M), true => .br (pG H h) (.ok (.int true .i64 (subZ tm W H M h))) .no
    | _, _ => .no
  | _ => .no
theorem meet_ok {sk : Sk} {s : R CV} (h : meet sk (jn s) = true) : ∃ x, s.val = some x ∧ l7 x (mkS sk (match jn s with
    | some (_, z) => z
    | none => .nils)) := by
  cases hj : jn s with
  | none => rw [hj] at h; simp [meet] at h
  | some p =>
    obtain ⟨c, z⟩ := p
    rw [hj] at h
    unfold meet at h
    split at h
    · rename_i z' heq
      simp only [Option.some.injEq, Prod.mk.injEq] at heq
      obtain ⟨rfl, rfl⟩ := heq
      obtain ⟨x, k1, k2⟩ := jn_ok hj rfl
      exact ⟨x, k1, fun β u hu => mkS_rv h (k2 β u hu)⟩
    · simp at h
theorem sbd_pur : bM Tryz.prog 78 subS := pt_pur cTa_ok (by kernel_rfl) (fun l V v h => by
  unfold subS at h
  split at h
  · rename_i pl s0 h0
    split at h
    · rename_i tm W H M hp ht
      obtain rfl := yU hp
      refine ⟨ht, fun β us hu => ?_⟩
      obtain ⟨u1, r1, rfl, q1, u2, r2, rfl, q2, e3⟩ := hu
      have hb : pG H h0 = true := by
        cases hc : pG H h0 with
        | true => rfl
        | false => rw [hc] at h; simp [R.val] at h
      rw [hb] at h
      obtain rfl := Option.some.inj h
      unfold pG at hb
      simp only [Bool.and_eq_true, decide_eq_true_eq] at hb
      obtain ⟨a, rfl⟩ := Int.eq_ofNat_of_zero_le (a := H) (by omega)
      obtain ⟨b, rfl⟩ := Int.eq_ofNat_of_zero_le (a := h0) (by omega)
      have hm : meet (.i .i64) (jn (pr cTa 78 (subL tm W M a b) aV)) = true := by
        have hb9 : b ≤ 9 := by omega
        have ha : a = 4 ∨ a = 5 ∨ a = 6 := by omega
        rcases ha with rfl | rfl | rfl
        · exact sub_4 tm W M b hb9
        · exact sub_5 tm W M b hb9
        · exact sub_6 tm W M b hb9
      obtain ⟨x, k1, k2⟩ := meet_ok hm
      obtain ⟨us1, rfl, q1⟩ := q1
      refine ⟨subL tm W M a b, x, ⟨_, _, rfl, ⟨us1, rfl, ?_⟩, _, _, rfl, ⟨q2.1, fun hh => by simp at hh⟩, e3⟩, k1, k2⟩
      exact setP_rv (i := 78) (k := .i64) (z := (a : Int)) (v := a) (p := parC tm W a M) rfl rfl q1
    · simp [R.val] at h
  · simp [R.val] at h)
noncomputable def cTb : bQ := bT (bT cTa 139 (jpx cTa 139)) 78 subS
theorem cTb_ok : gV Tryz.prog cTb := aG (aG cTa_ok (nM cTa_ok (by kernel_rfl))) sbd_pur
noncomputable def cTc : bQ := bT cTb 82 (jpx cTb 82)
theorem cTc_ok : gV Tryz.prog cTc := aG cTb_ok (nM cTb_ok (by kernel_rfl))
def hdrV (hd : List Int) : List CV := .int true .u32 (hd.getD 0 0) :: (List.range 64).map (fun j => .int true .u8 (hd.getD (j + 1) 0)) ++ [.int true .u32 (hd.getD 65 0), .int true .u32 (hd.getD 66 0), .int true .u32 (hd.getD 67 0)]
def nJ (ts : List iD) : CV := .fz (ts.foldr (fun t r => txC t ++ r) []) 0 ts.length
def ledV (h : Int) (tip : List Int) (cs : List aJ) (o n : Nat) : CV := .agg (.int true .i64 h :: (List.range 32).map (fun j => .int true .u8 (tip.getD j 0)) ++ [.fy (.c cs) o n true])
def blkV (hd : List Int) (ts : List iD) : CV := .agg (hdrV hd ++ [nJ ts])
def zsV : List CV := [.agg (.int false .i64 0 :: List.replicate 32 (.int false .u8 0) ++ [.nils]), .agg [.nils]]
def unO : CV → Bool
  | .nils => true
  | .fy (.c _) _ _ _ => true
  | _ => false
def conG : CV → Option (Nat × Int)
  | .tup [.agg (.int true .i64 h :: r), .agg [u], .int false .i64 (.ofNat 0)] => match unk .u8 32 (r.take 32), r.drop 32, unO u with
    | some _, [.fy (.c _) 0 m _], true => some (m, h)
    | _, _, _ => none
  | _ => none
def adK (t : iD) : List Kn1 := match t with
  | .sp2 _ _ _ _ _ _ _ => [.ek, .ek, .rq, .rq]
  | _ => [.ek, .rq]
def ksE (b : Bool) : List Kn1 := .ek :: .ek :: .ee :: (match b with
  | true => [.tr]
  | false => [])
def ksS : Bool → List iD → List Kn1
  | b, [] => ksE b
  | false, t :: ts => .ee :: .ek :: .ec :: .rq :: (adK t ++ ksS true ts)
  | true, t :: ts => .ee :: .ek :: .ec :: .rq :: .tr :: (adK t ++ ksS true ts)
def ksOf (t : iD) (ts : List iD) : List Kn1 := .ec :: .rq :: (adK t ++ ksS false ts)
def adC (t : iD) (n : Nat) : List Bool := match t with
  | .sp2 _ _ _ _ _ _ _ => [decide (n ≤ 1000000), decide (n + 1 ≤ 1000000)]
  | _ => [decide (n ≤ 1000000)]
def iD.nouts : iD → Nat
  | .sp2 _ _ _ _ _ _ _ => 2
  | _ => 1
noncomputable def adR (h1 : Int) (t : iD) (cs : List aJ) (o n : Nat) : List aJ := match t with
  | .sp2 p q w v x v' x' => xB (xB cs o n (oM ((outZ (.sp2 p q w v x v' x') h1).getD 0 cn0))) 0 (n + 1) (oM ((outZ (.sp2 p q w v x v' x') h1).getD 1 cn0))
  | t => xB cs o n (oM ((outZ t h1).getD 0 cn0))
noncomputable def cnS (h1 : Int) : List iD → List aJ → Nat → List Bool
  | [], _, n => [gGtr (.ofNat n) 100000]
  | t :: ts, cs, n => decide (spK cs 0 n t < 0) :: ((decide (0 ≤ spK cs 0 n t) && decide (spK cs 0 n t < (n : Int))) && decide (n ≤ 1000000)) :: (adC t (n - 1) ++ cnS h1 ts (adR h1 t (dropZ cs 0 n (spK cs 0 n t).toNat) 0 (n - 1)) (n - 1 + t.nouts))
def mS : List iD → Nat → Nat
  | [], n => n
  | t :: ts, n => mS ts (n - 1 + t.nouts)
noncomputable def cnF (H h1 : Int) (t : iD) (ts : List iD) (cs : List aJ) (o n : Nat) : List Bool := pG H h1 :: (adC t n ++ cnS h1 ts (adR h1 t cs o n) (n + t.nouts))
theorem spQ_ad {t : iD} {n : Nat} {ks : List Kn1} {cs : List Bool} (hn : n + 1 ≤ 1000000) (h : spQ ks cs) : spQ (adK t ++ ks) (adC t n ++ cs) := by
  cases t with
  | sp2 _ _ _ _ _ _ _ => exact ⟨decide_eq_true (by omega), decide_eq_true (by omega), h⟩
  | cb _ _ _ => exact ⟨decide_eq_true (by omega), h⟩
  | sp1 _ _ _ _ _ => exact ⟨decide_eq_true (by omega), h⟩
theorem nouts_le (t : iD) : t.nouts ≤ 2 := by cases t <;> simp [iD.nouts]
theorem spQ_S {h1 : Int} : ∀ {ts : List iD} {b : Bool} {cs : List aJ} {n : Nat}, n + 2 * ts.length + 1 ≤ 1000000 → spQ (ksS b ts) (cnS h1 ts cs n)
  | [], b, cs, n, _ => by
    cases b
    · exact fun _ => trivial
    · exact fun _ => trivial
  | t :: ts, b, cs, n, hn => by
    simp only [List.length_cons] at hn
    have hr := spQ_S (h1 := h1) (ts := ts) (b := true) (cs := adR h1 t (dropZ cs 0 n (spK cs 0 n t).toNat) 0 (n - 1)) (n := n - 1 + t.nouts) (by have := nouts_le t; omega)
    have ha := spQ_ad (t := t) (n := n - 1) (by omega) hr
    have ck : ∀ hz : decide (spK cs 0 n t < 0) = false, ((decide (0 ≤ spK cs 0 n t) && decide (spK cs 0 n t < (n : Int))) && decide (n ≤ 1000000)) = true := fun hz => by
      have this : 0 ≤ spK cs 0 n t ∧ spK cs 0 n t < (n : Int) := findZ_lt (of_decide_eq_false hz)
      rw [decide_eq_true this.1, decide_eq_true this.2, decide_eq_true (by omega)]; rfl
    cases b
    · exact fun hz => ⟨ck hz, ha⟩
    · exact fun hz => ⟨ck hz, ha⟩
theorem spF_ad {t : iD} {n : Nat} {ks : List Kn1} {cs : List Bool} (h : spF (adK t ++ ks) (adC t n ++ cs)) : spF ks cs := by
  cases t with
  | sp2 _ _ _ _ _ _ _ => exact h.2.2
  | cb _ _ _ => exact h.2
  | sp1 _ _ _ _ _ => exact h.2
theorem spF_S {h1 : Int} : ∀ {ts : List iD} {b : Bool} {cs : List aJ} {n : Nat}, spF (ksS b ts) (cnS h1 ts cs n) → gGtr (.ofNat (mS ts n)) 100000 = false
  | [], b, cs, n, h => by
    cases b
    · exact h.1
    · exact h.1
  | t :: ts, b, cs, n, h => by
    cases b
    · exact spF_S (ts := ts) (spF_ad h.2.2)
    · exact spF_S (ts := ts) (spF_ad h.2.2)
noncomputable def spE1 (o : Option ((List Bool × List Bool) × List Bool × Nat × Int)) : List Bool := match o with
  | some ((x, _), _) => x
  | none => []
noncomputable def spE2 (o : Option ((List Bool × List Bool) × List Bool × Nat × Int)) : List Bool := match o with
  | some ((_, y), _) => y
  | none => []
noncomputable def spE3 (o : Option ((List Bool × List Bool) × List Bool × Nat × Int)) : Option (List Bool × Nat × Int) := match o with
  | some (_, p) => some p
  | none => none
noncomputable def conX (tm W H M h : Int) (tip : List Int) (cs : List aJ) (o n : Nat) (hd : List Int) (t : iD) (ts : List iD) : Option ((List Bool × List Bool) × List Bool × Nat × Int) := spX zsV conG (ksOf t ts) (pr cTc 38 [.agg (parC tm W H M), ledV h tip cs o n, blkV hd (t :: ts)] aV)
def mP (t : iD) (ts : List iD) : Prop := ∀ (tm W H M h : Int) (tip : List Int) (cs : List aJ) (o n : Nat) (hd : List Int), (spE1 (conX tm W H M h tip cs o n hd t ts), spE3 (conX tm W H M h tip cs o n hd t ts)) = (spE2 (conX tm W H M h tip cs o n hd t ts), some (cnF H (eX .i64 h 1) t ts cs o n, mS ts (n + t.nouts), eX .i64 h 1))
theorem con_val {t : iD} {ts : List iD} (hk : mP t ts) (tm W H M h : Int) (tip : List Int) (cs : List aJ) (o n : Nat) (hd : List Int) (hs : pG H (eX .i64 h 1) = true) (hn : n ≤ 100000) (ht : ts.length ≤ 3) : ∃ v, (pr cTc 38 [.agg (parC tm W H M), ledV h tip cs o n, blkV hd (t :: ts)] aV).val = some v ∧ ((∃ e, sN zsV v = some e ∧ e ≠ 0) ∨ ∃ m, conG v = some (m, eX .i64 h 1) ∧ m ≤ 100000) := by
  have k := hk tm W H M h tip cs o n hd
  generalize hX : conX tm W H M h tip cs o n hd t ts = X at k
  cases X with
  | none => simp [spE3] at k
  | some p =>
    obtain ⟨⟨x, y⟩, c, m, h'⟩ := p
    simp only [spE1, spE2, spE3, Prod.mk.injEq, Option.some.injEq] at k
    obtain ⟨rfl, rfl, rfl, rfl⟩ := k
    obtain ⟨v, h1, h2⟩ := spX_ok hX rfl ⟨hs, spQ_ad (by omega) (spQ_S (by have := nouts_le t; omega))⟩
    refine ⟨v, h1, h2.imp (fun q => q) (fun ⟨q1, q2⟩ => ⟨_, q1, ?_⟩)⟩
    have g := spF_S (spF_ad q2.2)
    unfold gGtr at g
    simp at g
    omega
end Go.Proofs.YtcgdimlbbdfdpaaGreatDoor
