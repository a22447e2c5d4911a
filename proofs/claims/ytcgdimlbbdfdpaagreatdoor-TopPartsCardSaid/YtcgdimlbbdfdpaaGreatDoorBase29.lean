/-
  What this statement needs, part 29: the texts of it, one behind the other.
-/
import Derived.Test.YtcgdimlbbdfdpaaGreatDoorBase27
import Derived.Test.YtcgdimlbbdfdpaaGreatDoorBase28
set_option maxRecDepth 100000
set_option linter.all false
namespace Go.Proofs.YtcgdimlbbdfdpaaGreatDoor
open Go Go.RowKit
def w0K : Sj := .agg (parL ++ [.x .nils, .fz (.x (.int false .i64 0) :: hshL ++ [.x .nils]) 0 1, .fz (ctxK 0).li 0 1, .x .nils])
def gwA : List Sj := [w0K, .fj .u8]
noncomputable def gwPR (root : CV) : R (Ex × aP) := iJ cTn 112 (.seq (kA gwC) (.seq (kA (kC gwC)) (.seq (kA (kC (kC gwC))) (kA gwL)))) (st0 (dO gwA root 0))
noncomputable def gwN0 (s : aP) : List (Nat × Nat) := [(66, 64), (69, 64), (67, gx ((dU (fC [] s 64)).getD 81 .nils)), (68, gx ((dU (fC [] s 64)).getD 82 .nils))]
noncomputable def gwPF (a : Ex × aP) : Bool := match a.1 with
  | .nrm => iR (gwN0 a.2) (gwT 0) a.2
  | _ => false
theorem gw_pre (root : CV) : allB gwPF (gwPR root) = true ∧ R.mq (fun a => wgK (gwN0 a.2) 0 a.2) (gwPR root) = R.mp (fun _ => ((0, ((gK (aT 1 root) : Nat) : Int), gK (aT 1 root)), (aS (aT 72 (aT 0 root)), aS (aT 78 (aT 0 root)), aS (aT 79 (aT 0 root))), (0, 0), [])) (gwPR root) := ⟨by kernel_rfl, by kernel_rfl⟩
structure GwJ (n i N : Nat) (x : Nat → CV) (y : Nat → HO) : Prop where
  i : wgI x = (i : Int)
  l30 : aS (x 30) = (N : Int)
  l29 : gK (x 29) = N
  par : qZ (wgW y) (wgH y) (wgM y) = true
  h : wgh n y = (n : Int)
  c : wgn n y ≤ 100000
  bs : gdB (wgB (y 66) n)
theorem sub_ok {W H M : Int} (h : qZ W H M = true) {n : Nat} (hn : n < 7) : pG H (eX .i64 (n : Int) 1) = true := by
  have k := (parB_ok h).2.1
  have e : eX .i64 (n : Int) 1 = ((n + 1 : Nat) : Int) := mO (a := n) (b := 1) (by omega)
  rw [e]
  unfold pG
  simp only [Bool.and_eq_true, decide_eq_true_eq]
  omega
theorem gw_7 (x : Nat → CV) (y : Nat → HO) : GwW 7 7 x y [false] [decide (wgI x < aS (x 30))] (.exit 0) (fun _ => []) (wgK [] 7) (wgKs 7 x y) := ⟨by kernel_rfl, by kernel_rfl, by kernel_rfl, by kernel_rfl, by kernel_rfl⟩
theorem gw_loop : ∀ (j : Nat) (n i N : Nat) (x : Nat → CV) (y : Nat → HO), GwJ n i N x y → n ≤ i → i + j = N → N ≤ 7 → ∃ n' s', n' < 8 ∧ iC cTn 112 aH (.loop gwB) (y5 (gwT n) x y) (.exit 0) s' ∧ iR [] (gwT n') s' = true ∧ gdB (wgB (fC [] s' 66) n')
  | 0, n, i, N, x, y, hJ, hn, hj, hN => by
    have hg : GwW n n x y [false] [decide (wgI x < aS (x 30))] (.exit 0) (fun _ => []) (wgK [] n) (wgKs n x y) := by
      by_cases h7 : n < 7
      · exact (gw_all n h7 x y).1
      · obtain rfl : n = 7 := by omega
        exact gw_7 x y
    · obtain ⟨h1, h2, h3, h4, h5⟩ := hg
      have hv : (gwR n x y).val = some (.exit 0, (wgE n x y [false]).2) := R.val_pe (e := Ex.exit 0) (Ex.nrm, dW) h1 (by rw [h2, hJ.i, hJ.l30, decide_eq_false (by omega)]) h3
      simp only [wgK, wgKs, Prod.mk.injEq] at h5
      exact ⟨n, _, by omega, .out (.run (by kernel_rfl) hv) (by simp), h4, by rw [h5.2.2.2]; exact hJ.bs⟩
  | j + 1, n, i, N, x, y, hJ, hn, hj, hN => by
    have h7 : n < 7 := by omega
    obtain ⟨_, g1, g2, g3⟩ := gw_all n h7 x y
    have hsub := sub_ok hJ.par h7
    have hroot : bkB (wgRoot n x y) = true := by
      rw [wg_root n h7 x y, hJ.par, hJ.h, hsub, decide_eq_true hJ.c]; rfl
    have hbv := bkV_ok h7 hroot
    have hmade : yO (wgC n x y) := by
      obtain ⟨t, ts, k1, k2⟩ := hbv.2
      exact ⟨(t, ts), k1, k2⟩
    have hD : ∀ b, wgD n x y = [true, true, true, true, b] ↔ cwB (eX .i64 (wgh n y) 1) (wgV n x y) = b := fun b => by
      unfold wgD
      rw [hJ.i, hJ.l30, hJ.l29, hroot, madeB_of hmade, hJ.h, hsub, decide_eq_true (show (i : Int) < (N : Int) by omega), decide_eq_true (show (0 : Int) ≤ (i : Int) by omega), decide_eq_true hJ.c]
      simp
    have hi : eX .i64 (wgI x) 1 = ((i + 1 : Nat) : Int) := by rw [hJ.i]; exact mO (a := i) (b := 1) (by omega)
    have cont : ∀ s1, iC cTn 112 aH gwB (y5 (gwT n) x y) .nrm s1 → iR [] (gwT n) s1 = true → wgK [] n s1 = wgNx n x y → ∃ n' s', n' < 8 ∧ iC cTn 112 aH (.loop gwB) (y5 (gwT n) x y) (.exit 0) s' ∧ iR [] (gwT n') s' = true ∧ gdB (wgB (fC [] s' 66) n') := fun s1 p1 f1 k1 => by
      simp only [wgK, wgKs, wgNx, Prod.mk.injEq] at k1
      obtain ⟨⟨e1, e2, e3⟩, ⟨e4, e5, e6⟩, ⟨e7, e8⟩, e9⟩ := k1
      obtain ⟨n', s', q1, q2, q3, q4⟩ := gw_loop j n (i + 1) N (fU s1) (fC [] s1) ⟨e1.trans hi, e2.trans hJ.l30, e3.trans hJ.l29, by rw [e4, e5, e6]; exact hJ.par, e7.trans hJ.h, by rw [e8]; exact hJ.c, by rw [e9]; exact hJ.bs⟩ (by omega) (by omega) hN
      exact ⟨n', s', q1, .again p1 (.fit f1 q2), q3, q4⟩
    cases hB : cwB (eX .i64 (wgh n y) 1) (wgV n x y) with
    | false =>
      obtain ⟨h1, h2, h3, h4, h5⟩ := g1
      have he : (!((sN zsV (wgV n x y)).getD 1 == 0)) = true := by
        have := cw_err (tm := aS (aT 65 (wgP y))) (W := wgW y) (H := wgH y) (M := wgM y) (h := wgh n y) hmade (by rw [hJ.h]; exact hsub) hJ.c hB
        rw [Bool.not_eq_true', beq_eq_false_iff_ne]
        exact this
      have hv : (gwR n x y).val = some (.nrm, (wgE n x y wgd1).2) := R.val_pe (e := Ex.nrm) (Ex.nrm, dW) h1 (by rw [h2, (hD false).2 hB, he]; rfl) h3
      exact cont _ (.run (by kernel_rfl) hv) h4 h5
    | true =>
      cases h6 : wgC6 n x y with
      | true =>
        obtain ⟨h1, h2, h3, h4, h5⟩ := g2
        have hv : (gwR n x y).val = some (.nrm, (wgE n x y wgd2).2) := R.val_pe (e := Ex.nrm) (Ex.nrm, dW) h1 (by rw [h2, (hD true).2 hB, hJ.par, h6]; rfl) h3
        exact cont _ (.run (by kernel_rfl) hv) h4 h5
      | false =>
        obtain ⟨h1, h2, h3, h4, h5⟩ := g3
        have hv : (gwR n x y).val = some (.nrm, (wgE n x y wgd3).2) := R.val_pe (e := Ex.nrm) (Ex.nrm, dW) h1 (by rw [h2, (hD true).2 hB, hJ.par, h6]; rfl) h3
        simp only [wgK, wgKs, wgNy, Prod.mk.injEq] at h5
        obtain ⟨⟨e1, e2, e3⟩, ⟨e4, e5, e6⟩, ⟨e7, e8⟩, e9⟩ := h5
        obtain ⟨n', s', q1, q2, q3, q4⟩ := gw_loop j (n + 1) (i + 1) N _ _ ⟨e1.trans hi, e2.trans hJ.l30, e3.trans hJ.l29, by rw [e4, e5, e6]; exact hJ.par, e7.trans (by rw [hJ.h]; exact mO (a := n) (b := 1) (by omega)), by rw [e8]; exact Nat.min_le_right _ _, by
          rw [e9]
          intro p hp
          rcases List.mem_append.1 hp with hp | hp
          · exact hJ.bs p hp
          · simp only [List.mem_cons, List.not_mem_nil, or_false] at hp
            subst hp
            exact ⟨rfl, hmade⟩⟩ (by omega) (by omega) hN
        exact ⟨n', s', q1, .again (.run (by kernel_rfl) hv) (.fit h4 q2), q3, q4⟩
def gwF (v : CV) : CV := rX (gwK (aS (aT 0 v)).toNat) (aT 1 v)
def gwG (v : CV) : Prop := ∃ n : Nat, n < 8 ∧ aS (aT 0 v) = (n : Int) ∧ gdB (wbB (aT 1 v) n)
noncomputable def gwOut (v : CV) : R CV := pickR 8 0 (aS (aT 0 v)) (fun n => .ok (rX (gwK n) (aT 1 v)))
def gwCd (root : CV) : Bool := qZ (aS (aT 72 (aT 0 root))) (aS (aT 78 (aT 0 root))) (aS (aT 79 (aT 0 root))) && decide (gK (aT 1 root) ≤ 7)
theorem gw_ends {root : CV} (hc : gwCd root = true) : ∃ v0, gwG v0 ∧ Ends cTn 112 gwC (st0 (dO gwA root 0)) gwRS (gwF v0) := by
  unfold gwCd at hc
  rw [Bool.and_eq_true, decide_eq_true_eq] at hc
  obtain ⟨h1, h2⟩ := gw_pre root
  obtain ⟨⟨e, s1⟩, hv, k1⟩ := mF h1
  have k2 := R.mq_eq h2 hv
  cases e with
  | ret => simp [gwPF] at k1
  | exit i => simp [gwPF] at k1
  | nrm =>
    simp only [wgK, wgKs, Prod.mk.injEq] at k2
    obtain ⟨⟨e1, e2, e3⟩, ⟨e4, e5, e6⟩, ⟨e7, e8⟩, e9⟩ := k2
    obtain ⟨n, s2, q1, q2, q3, q4⟩ := gw_loop (gK (aT 1 root)) 0 0 (gK (aT 1 root)) (fU s1) (fC (gwN0 s1) s1) ⟨e1, e2, e3, by rw [e4, e5, e6]; exact hc.1, e7, by rw [e8]; omega, fun p hp => by simp [wgB] at hp⟩ (by omega) (by omega) hc.2
    obtain ⟨w1, w2⟩ := gw_end n q1 (fU s2) (fC [] s2)
    obtain ⟨⟨e, s3⟩, p1, p2⟩ := mF w1
    have p3 := R.mq_eq w2 p1
    obtain ⟨a1, l1, c1, hv⟩ := kM (by kernel_rfl) hv
    obtain ⟨a2, l2, c2, hv⟩ := kM c1 hv
    obtain ⟨a3, l3, c3, hv⟩ := kM c2 hv
    cases e with
    | nrm => simp [qJ] at p2
    | exit i => simp [qJ] at p2
    | ret =>
      obtain ⟨r1, r2⟩ := sU p2
      refine ⟨.tup [.int false .i64 (n : Int), resV gwRS s3], ⟨n, q1, rfl, ?_⟩, .ret, s3, ?_, Or.inr rfl, r1, r2⟩
      · show gdB (wbB (resV gwRS s3) n)
        rw [p3]; exact q4
      · rw [gwCode]
        exact .seq l1 (.seq l2 (.seq l3 (.seq (.seq (.run c3 hv) (.blk (id := 0) (.fit k1 q2))) (.fit q3 (.run (by kernel_rfl) p1)))))
noncomputable def gwS : List CV → Acc → R CV := tgS cTn 112 gwC gwRS [(gwA, .b)] (fun l => some (gwCd (.agg l))) gwF (fun _ v => gwG v) (fun _ v => gwOut v)
theorem gw_pur : bM Tryz.prog 15 gwS := tg_pur cTn_ok Tryz.func15 (by kernel_rfl) (by kernel_rfl) (by kernel_rfl) (fun k hk root => by
  simp only [List.mem_cons, List.not_mem_nil, or_false] at hk
  subst hk
  exact ⟨by kernel_rfl, by show 2 ≤ 112; omega, fun hc => gw_ends (show gwCd root = true from hc)⟩) (fun k hk l v0 v _ hv => by
  obtain ⟨j, h1, h2⟩ := qK hv
  obtain rfl := Option.some.inj h2
  unfold gwF
  rw [h1]
  exact l7.rfl_ _)
noncomputable def cTo : bQ := bT cTn 15 gwS
theorem cTo_ok : gV Tryz.prog cTo := aG cTn_ok gw_pur
theorem gwV_ok {root : CV} (hc : gwCd root = true) : gwG (endG cTn 112 gwC gwRS gwF (dO gwA root 0) gwG) := (Classical.epsilon_spec (gw_ends hc)).1
end Go.Proofs.YtcgdimlbbdfdpaaGreatDoor
