/-
  What this statement needs, part 38: the texts of it, one behind the other.
-/
import Derived.Test.YtcgdimlbbdfdpaaGreatDoorBase32
import Derived.Test.YtcgdimlbbdfdpaaGreatDoorBase33
import Derived.Test.YtcgdimlbbdfdpaaGreatDoorBase36
import Derived.Test.YtcgdimlbbdfdpaaGreatDoorBase37
set_option maxRecDepth 100000
set_option linter.all false
namespace Go.Proofs.YtcgdimlbbdfdpaaGreatDoor
open Go Go.RowKit
def y3 (c : CV) (y : Nat → HO) (n : Nat) : HO := match Nat.beq n 64 with
  | true => .cells (dO xH (.agg (dU (y 64))) 0 ++ [.wr c]) 45 false
  | false => y n
theorem y3_eq (x : Nat → CV) (y : Nat → HO) : y5 tp0 x y = y5 tp0 x (y3 (unW (aT 68 (.agg (dU (y 64))))) y) := by kernel_rfl
theorem y3_c (c : CV) (x : Nat → CV) (y : Nat → HO) : bkP (fC [] (y5 tp0 x (y3 c y)) 64) = (rtY (y 64), c) := by kernel_rfl
theorem shp_fit : ∀ (t : iD) (ts : List iD), lF t ts = true → ∃ s : List Bool, s.length ≤ 3 ∧ rX (txsK s) (nJ (t :: ts)) = nJ (t :: ts) ∧ ∀ (x : Nat → CV) (y : Nat → HO), iR [] (tp1 s) (y5 tp0 x (y3 (nJ (t :: ts)) y)) = true
  | .cb q v x, [], _ => ⟨[], by simp, by kernel_rfl, fun x y => by kernel_rfl⟩
  | .cb q v x, [.sp2 o0 q0 w0 v0 x0 y0 z0], _ => ⟨[true], by simp, by kernel_rfl, fun x y => by kernel_rfl⟩
  | .cb q v x, [.sp1 o0 q0 w0 v0 x0], _ => ⟨[false], by simp, by kernel_rfl, fun x y => by kernel_rfl⟩
  | .cb q v x, [.sp2 o0 q0 w0 v0 x0 y0 z0, .sp2 o1 q1 w1 v1 x1 y1 z1], _ => ⟨[true, true], by simp, by kernel_rfl, fun x y => by kernel_rfl⟩
  | .cb q v x, [.sp2 o0 q0 w0 v0 x0 y0 z0, .sp1 o1 q1 w1 v1 x1], _ => ⟨[true, false], by simp, by kernel_rfl, fun x y => by kernel_rfl⟩
  | .cb q v x, [.sp1 o0 q0 w0 v0 x0, .sp2 o1 q1 w1 v1 x1 y1 z1], _ => ⟨[false, true], by simp, by kernel_rfl, fun x y => by kernel_rfl⟩
  | .cb q v x, [.sp1 o0 q0 w0 v0 x0, .sp1 o1 q1 w1 v1 x1], _ => ⟨[false, false], by simp, by kernel_rfl, fun x y => by kernel_rfl⟩
  | .cb q v x, [.sp2 o0 q0 w0 v0 x0 y0 z0, .sp2 o1 q1 w1 v1 x1 y1 z1, .sp2 o2 q2 w2 v2 x2 y2 z2], _ => ⟨[true, true, true], by simp, by kernel_rfl, fun x y => by kernel_rfl⟩
  | .cb q v x, [.sp2 o0 q0 w0 v0 x0 y0 z0, .sp2 o1 q1 w1 v1 x1 y1 z1, .sp1 o2 q2 w2 v2 x2], _ => ⟨[true, true, false], by simp, by kernel_rfl, fun x y => by kernel_rfl⟩
  | .cb q v x, [.sp2 o0 q0 w0 v0 x0 y0 z0, .sp1 o1 q1 w1 v1 x1, .sp2 o2 q2 w2 v2 x2 y2 z2], _ => ⟨[true, false, true], by simp, by kernel_rfl, fun x y => by kernel_rfl⟩
  | .cb q v x, [.sp2 o0 q0 w0 v0 x0 y0 z0, .sp1 o1 q1 w1 v1 x1, .sp1 o2 q2 w2 v2 x2], _ => ⟨[true, false, false], by simp, by kernel_rfl, fun x y => by kernel_rfl⟩
  | .cb q v x, [.sp1 o0 q0 w0 v0 x0, .sp2 o1 q1 w1 v1 x1 y1 z1, .sp2 o2 q2 w2 v2 x2 y2 z2], _ => ⟨[false, true, true], by simp, by kernel_rfl, fun x y => by kernel_rfl⟩
  | .cb q v x, [.sp1 o0 q0 w0 v0 x0, .sp2 o1 q1 w1 v1 x1 y1 z1, .sp1 o2 q2 w2 v2 x2], _ => ⟨[false, true, false], by simp, by kernel_rfl, fun x y => by kernel_rfl⟩
  | .cb q v x, [.sp1 o0 q0 w0 v0 x0, .sp1 o1 q1 w1 v1 x1, .sp2 o2 q2 w2 v2 x2 y2 z2], _ => ⟨[false, false, true], by simp, by kernel_rfl, fun x y => by kernel_rfl⟩
  | .cb q v x, [.sp1 o0 q0 w0 v0 x0, .sp1 o1 q1 w1 v1 x1, .sp1 o2 q2 w2 v2 x2], _ => ⟨[false, false, false], by simp, by kernel_rfl, fun x y => by kernel_rfl⟩
  | .sp1 _ _ _ _ _, _, h => by simp [lF] at h
  | .sp2 _ _ _ _ _ _ _, _, h => by simp [lF] at h
  | .cb _ _ _, .cb _ _ _ :: _, h => by simp [lF, iD.isSp] at h
  | .cb _ _ _, _ :: .cb _ _ _ :: _, h => by simp [lF, iD.isSp] at h
  | .cb _ _ _, _ :: _ :: .cb _ _ _ :: _, h => by simp [lF, iD.isSp] at h
  | .cb _ _ _, _ :: _ :: _ :: _ :: r, h => by
    unfold lF at h
    rw [Bool.and_eq_true] at h
    have := dK h.2
    simp only [List.length_cons] at this
    omega
theorem tl_loop {s : List Bool} (hs : s.length ≤ 3) (cc : CV) (rt : List Int) : ∀ (j i : Nat) (x : Nat → CV) (y : Nat → HO), i + j = s.length + 1 → rX (txsK s) (x 49) = cc → rtY (y 64) = rt → lvY (y 65) i = fuNs cc i → ∃ s' ren, iC cTp 149 aH (.loop tlB) (y5 (tpL s i) x y) (.exit 0) s' ∧ iR ren (tpF (s.length + 1)) s' = true ∧ rtY (fC ren s' 64) = rt ∧ lvY (fC ren s' 65) (s.length + 1) = fuNs cc (s.length + 1)
  | 0, i, x, y, hj, h1, h2, h3 => by
    obtain rfl : i = s.length + 1 := by omega
    obtain ⟨k1, k2⟩ := tlE_all s hs x y
    obtain ⟨⟨e, s'⟩, hv, q1⟩ := mF k1
    have q2 := R.mq_eq k2 hv
    simp only [Prod.mk.injEq] at q2
    unfold exF at q1
    split at q1
    · rename_i he
      have he : e = .exit 0 := he
      subst he
      exact ⟨s', tlN s', .out (.run (by kernel_rfl) hv) (by simp), q1, q2.1.trans h2, q2.2.trans h3⟩
    · simp at q1
  | j + 1, i, x, y, hj, h1, h2, h3 => by
    obtain ⟨k1, k2⟩ := tlR_all s hs i (by omega) x y
    obtain ⟨⟨e, s'⟩, hv, q1⟩ := mF k1
    have q2 := R.mq_eq k2 hv
    simp only [Prod.mk.injEq] at q2
    unfold nrmF at q1
    split at q1
    · rename_i he
      have he : e = .nrm := he
      subst he
      obtain ⟨s2, ren, p1, p2, p3, p4⟩ := tl_loop hs cc rt j (i + 1) (fU s') (fC (tlN s') s') (by omega) (q2.1.trans h1) (q2.2.1.trans h2) (by rw [q2.2.2, h1, h3]; rfl)
      exact ⟨s2, ren, .again (.run (by kernel_rfl) hv) (.fit q1 p1), p2, p3, p4⟩
    · simp at q1
def bsY (o : HO) (m : Nat) : List Bool := (List.range m).map fun i => yS (aT i (.agg (dU o)))
theorem tpG_fit : ∀ (m : Nat), 1 ≤ m → m ≤ 4 → ∀ (x : Nat → CV) (y : Nat → HO), iR [] (tpG m) (y5 (tpF m) x y) = true ∧ y5 (tpG m) (fU (y5 (tpF m) x y)) (fC [] (y5 (tpF m) x y)) = y5 (tpG m) (fU (y5 (tpF m) x y)) (yB (bsY (y 66) m) (fC [] (y5 (tpF m) x y))) ∧ (lvY (fC [] (y5 (tpF m) x y) 65) m, rtY (fC [] (y5 (tpF m) x y) 64)) = (lvY (y 65) m, rtY (y 64))
  | 1, _, _, x, y => ⟨by kernel_rfl, by kernel_rfl, by kernel_rfl⟩
  | 2, _, _, x, y => ⟨by kernel_rfl, by kernel_rfl, by kernel_rfl⟩
  | 3, _, _, x, y => ⟨by kernel_rfl, by kernel_rfl, by kernel_rfl⟩
  | 4, _, _, x, y => ⟨by kernel_rfl, by kernel_rfl, by kernel_rfl⟩
  | 0, h, _, _, _ => absurd h (by omega)
  | n + 5, _, h, _, _ => absurd h (by omega)
theorem tl_ends {x : Nat → CV} {y : Nat → HO} (hr : (bkP (y 64)).1 = rtW (bkP (y 64)).2) (hm : yO (bkP (y 64)).2) : ∃ s', iC cTp 149 aH tlC (y5 tp0 x y) .ret s' ∧ s'.wr = [] ∧ Fin [.t (way 8)] (.bool true true) s' := by
  obtain ⟨⟨t, ts⟩, hp, hc⟩ := hm
  obtain ⟨s, hs, e1, hfit⟩ := shp_fit t ts hp
  rw [y3_eq x y]
  have ec : unW (aT 68 (.agg (dU (y 64)))) = nJ (t :: ts) := hc
  rw [ec]
  have hrt : rtY (y 64) = rtW (nJ (t :: ts)) := by rw [← ec]; exact hr
  obtain ⟨k1, k2⟩ := tlP_all s hs (fU (y5 tp0 x (y3 (nJ (t :: ts)) y))) (fC [] (y5 tp0 x (y3 (nJ (t :: ts)) y)))
  obtain ⟨⟨e, s1⟩, hv, q1⟩ := mF k1
  have q2 := R.mq_eq k2 hv
  have q3 := y3_c (nJ (t :: ts)) x y
  unfold bkP at q3
  simp only [Prod.mk.injEq] at q2 q3
  unfold nrmF at q1
  split at q1
  · rename_i he
    have he : e = .nrm := he
    subst he
    obtain ⟨s2, ren, p1, p2, p3, p4⟩ := tl_loop hs (nJ (t :: ts)) (rtW (nJ (t :: ts))) (s.length + 1) 0 (fU s1) (fC [] s1) (by omega) (by rw [q2.1, q3.2, e1]) (by rw [q2.2, q3.1, hrt]) rfl
    obtain ⟨g1, g2, g3⟩ := tpG_fit (s.length + 1) (by omega) (by omega) (fU s2) (fC ren s2)
    simp only [Prod.mk.injEq] at g3
    obtain ⟨w1, w2, w3, w4, w5⟩ := tp3_all (s.length + 1) (bsY (fC ren s2 66) (s.length + 1)) (by omega) (by omega) (by simp [bsY]) (fU (y5 (tpF (s.length + 1)) (fU s2) (fC ren s2))) (fC [] (y5 (tpF (s.length + 1)) (fU s2) (fC ren s2)))
    have hroot : rtW (nJ (t :: ts)) = rootE (fuNs (nJ (t :: ts)) (s.length + 1)) (s.length + 1) := by
      have := rtE_all s hs (nJ (t :: ts))
      rw [e1] at this
      exact this
    have hcd : cdT (s.length + 1) (bsY (fC ren s2 66) (s.length + 1)) (fC [] (y5 (tpF (s.length + 1)) (fU s2) (fC ren s2))) = dsT (bsY (fC ren s2 66) (s.length + 1)) := by
      unfold cdT dsT
      rw [g3.1, g3.2, p3, p4, ← hroot, eqR_self, cdB_ok]; rfl
    have hv3 : (tpR3 (s.length + 1) (bsY (fC ren s2 66) (s.length + 1)) (fU (y5 (tpF (s.length + 1)) (fU s2) (fC ren s2))) (fC [] (y5 (tpF (s.length + 1)) (fU s2) (fC ren s2)))).val = some (.ret, (tpE3 (s.length + 1) (bsY (fC ren s2 66) (s.length + 1)) (fU (y5 (tpF (s.length + 1)) (fU s2) (fC ren s2))) (fC [] (y5 (tpF (s.length + 1)) (fU s2) (fC ren s2)))).2) := R.val_pe (e := Ex.ret) (Ex.nrm, dW) w1 (w2.trans hcd) w3
    generalize (tpE3 (s.length + 1) (bsY (fC ren s2 66) (s.length + 1)) (fU (y5 (tpF (s.length + 1)) (fU s2) (fC ren s2))) (fC [] (y5 (tpF (s.length + 1)) (fU s2) (fC ren s2)))) = E at w3 w4 w5 hv3
    obtain ⟨r1, r2⟩ := sU w4
    have r3 : rX .b (resV [.t (way 8)] E.2) = .bool true true := by
      show CV.bool true (yS _) = _
      rw [w5]
    rw [r3] at r2
    refine ⟨_, .fit (hfit x y) ?_, r1, r2⟩
    have hE : iC cTp 149 aH tlE (y5 (tpG (s.length + 1)) (fU (y5 (tpF (s.length + 1)) (fU s2) (fC ren s2))) (fC [] (y5 (tpF (s.length + 1)) (fU s2) (fC ren s2)))) .ret E.2 := by
      rw [g2]
      exact .run (by kernel_rfl) hv3
    obtain ⟨a1, l1, c1, hv⟩ := kM (by kernel_rfl) hv
    obtain ⟨a2, l2, c2, hv⟩ := kM c1 hv
    obtain ⟨a3, l3, c3, hv⟩ := kM c2 hv
    rw [tlCode]
    exact .seq l1 (.seq l2 (.seq l3 (.seq (.seq (.run c3 hv) (.blk (id := 0) (.fit q1 p1))) (.fit p2 (.fit g1 hE)))))
  · simp at q1
theorem u8_rg {z : Int} (h : IntKind.u8.wrap z = z) : ∃ q : Nat, z = (q : Int) ∧ q < 256 := by
  have h := (lS .u8 z).1 h
  simp [IntKind.signed, IntKind.bits] at h
  exact ⟨z.toNat, by omega, by omega⟩
theorem rem_nat {q m : Nat} : qE .u8 (q : Int) (m : Int) = ((q % m : Nat) : Int) := by
  unfold qE
  rw [Int.tmod_eq_emod_of_nonneg (by omega)]
  rfl
theorem wrap_sm {q : Nat} (h : q ≤ 140737488355328) : dP .i64 (q : Int) = (q : Int) := by rw [bZ]; exact iW h
theorem tp_par {root : CV} {v : Nat} (h : aS (aT 0 root) = (v : Int)) : qZ (tpWz root) (tpHz root) (tpMz root) = true := by
  have e5 : qE .u8 (v : Int) 5 = ((v % 5 : Nat) : Int) := rem_nat (m := 5)
  have e3 : qE .u8 (v : Int) 3 = ((v % 3 : Nat) : Int) := rem_nat (m := 3)
  have h5 : v % 5 < 5 := Nat.mod_lt _ (by omega)
  have h3 : v % 3 < 3 := Nat.mod_lt _ (by omega)
  have w1 : tpWz root = ((3 + v % 5 : Nat) : Int) := by
    unfold tpWz
    rw [h, e5, wrap_sm (by omega)]
    exact mO (a := 3) (b := v % 5) (by omega)
  have w2 : tpHz root = ((4 + v % 3 : Nat) : Int) := by
    unfold tpHz
    rw [h, e3, wrap_sm (by omega)]
    exact mO (a := 4) (b := v % 3) (by omega)
  have w3 : tpMz root = ((v % 3 : Nat) : Int) := by
    unfold tpMz
    rw [h, e3, wrap_sm (by omega)]
  rw [w1, w2, w3]
  unfold qZ
  simp only [Bool.and_eq_true, decide_eq_true_eq]
  omega
theorem path_ok {z : Int} {i : Nat} (hz : z = (i : Int)) : (List.range (i + 1)).map (fun (j : Nat) => decide (z = (j : Int))) = List.replicate i false ++ [true] := by
  rw [List.range_succ, List.map_append, hz]
  congr 1
  · rw [List.eq_replicate_iff]
    refine ⟨by simp, fun b hb => ?_⟩
    obtain ⟨j, hj, rfl⟩ := List.mem_map.1 hb
    have := List.mem_range.1 hj
    exact decide_eq_false (by omega)
  · simp
theorem tp_ends {root : CV} {v nn : Nat} (h0 : aS (aT 0 root) = (v : Int)) (h2 : aS (aT 2 root) = (nn : Int)) (hnn : nn < 256) : ∃ s', iC cTp 149 aH tpC (st0 (dO tpA root 0)) .ret s' ∧ s'.wr = [] ∧ Fin [.t (way 8)] (.bool true true) s' := by
  have hpar := tp_par h0
  have hmn : 0 ≤ tpmn root ∧ tpmn root ≤ 7 ∧ tpmn root ≤ ((gK (aT 1 root) : Nat) : Int) := by
    unfold tpmn
    split <;> omega
  have c0 : xsB (gK (aT 1 root)) none (some (tpmn root)) none = true := by
    unfold xsB
    simp only [Option.getD_some, Option.getD_none, Bool.and_eq_true, decide_eq_true_eq]
    omega
  have c2 : gwCd (tprt root) = true := by
    rw [tp_cd, hpar, decide_eq_true (by omega)]; rfl
  have hgV : gwG (tpv0 root) := gwV_ok c2
  obtain ⟨i, hi, hz, hg⟩ := hgV
  obtain ⟨s1, hv, f1, k1⟩ := (tp1W i hi root).ok (by
    unfold tpCd tpD
    rw [c0, hpar, c2, path_ok hz]; rfl)
  simp only [Prod.mk.injEq] at k1
  have hg : gdB (wbB (.agg (dU (fC (tpN s1) s1 64))) i) := by rw [k1.2]; exact hg
  obtain ⟨a1, l1, c1, hv⟩ := kM (by kernel_rfl) hv
  obtain ⟨a2, l2, c2, hv⟩ := kM c1 hv
  have pre : ∀ {s' : aP}, iC cTp 149 aH (.seq (kA (kNx 3 tpC)) (.seq (kA (kNx 4 tpC)) tlC)) (y5 (tpW i) (fU s1) (fC (tpN s1) s1)) .ret s' → iC cTp 149 aH tpC (st0 (dO tpA root 0)) .ret s' := fun h => by
    rw [tpCode]
    exact .seq l1 (.seq l2 (.seq (.run c2 hv) (.fit f1 h)))
  by_cases hi0 : i = 0
  · subst hi0
    obtain ⟨w1, w2⟩ := tp_0 (fU s1) (fC (tpN s1) s1)
    obtain ⟨⟨e, s2⟩, q1, q2⟩ := mF w1
    have q3 := R.mq_eq w2 q1
    cases e with
    | nrm => simp [qJ] at q2
    | exit j => simp [qJ] at q2
    | ret =>
      obtain ⟨r1, r2⟩ := sU q2
      have r3 : rX .b (resV [.t (way 8)] s2) = .bool true true := by
        show CV.bool true (yS _) = _
        rw [q3]
      rw [r3] at r2
      exact ⟨s2, pre (.stop (.run (by kernel_rfl) q1) (by simp)), r1, r2⟩
  · have hz2 : tpz i (fU s1) = ((nn % i : Nat) : Int) := by
      unfold tpz
      rw [k1.1, h2, wrap_sm (by omega)]
      exact rem_nat (q := nn) (m := i)
    have hj : nn % i < i := Nat.mod_lt _ (by omega)
    obtain ⟨s2, hv2, f2, k2⟩ := (tp2_all i (nn % i) hi hj (fU s1) (fC (tpN s1) s1)).ok (by
      unfold tpC2 tpD2
      rw [path_ok hz2, hz2, decide_eq_true (by omega), decide_eq_true (by omega)]; rfl)
    have hlen : ∀ (v : CV) (n : Nat), (wbB v n).length = n := fun v n => by
      induction n with
      | zero => rfl
      | succ n ih =>
        unfold wbB
        rw [List.length_append, ih]; rfl
    have hmem : (wbB (.agg (dU (fC (tpN s1) s1 64))) i).getD (nn % i) ([], .nils) ∈ wbB (.agg (dU (fC (tpN s1) s1 64))) i := by
      rw [List.getD_eq_getElem?_getD, List.getElem?_eq_getElem (by rw [hlen]; exact hj)]
      exact List.getElem_mem _
    have hb := hg _ hmem
    rw [← k2] at hb
    obtain ⟨s3, p1, p2, p3⟩ := tl_ends (x := fU s2) (y := fC (tpN2 s2) s2) hb.1 hb.2
    obtain ⟨b1, m1, d1, hv2⟩ := kM (by kernel_rfl) hv2
    exact ⟨s3, pre (.seq m1 (.seq (.run d1 hv2) (.fit f2 p1))), p2, p3⟩
noncomputable def tpS (l : List CV) (V : Acc) : R CV := match l, pJ V with
  | [.int true .u8 _, .fy (.j .u8 _ _) _ _ _, .int true .u8 _, .int true .u8 _], true => .ok (.bool true true)
  | _, _ => .no
theorem tp_pur : bM Tryz.prog 3 tpS := lds_pur cTp_ok Tryz.func3 (by kernel_rfl) (by kernel_rfl) (by kernel_rfl) (rs := [.t (way 8)]) (fun l V v h => by
  unfold tpS at h
  split at h
  · rename_i v0 bb zs o n u nn s ht
    obtain rfl := Option.some.inj h
    refine ⟨ht, fun β us hu => ?_⟩
    have hu0 := hu
    obtain ⟨u1, r1, rfl, q1, u2, r2, rfl, q2, u3, r3, rfl, q3, u4, r4, rfl, q4, e5⟩ := hu
    obtain ⟨v1, rfl, _⟩ := u8_rg (q1.2 rfl)
    obtain ⟨n1, rfl, hn1⟩ := u8_rg (q3.2 rfl)
    obtain ⟨s', p1, p2, p3⟩ := tp_ends (root := .agg [.int true .u8 v1, .fy (.j .u8 bb zs) o n u, .int true .u8 n1, .int true .u8 s]) rfl rfl hn1
    exact ⟨_, .ret, s', args_ok (k := tpA) (by kernel_rfl) hu0, by kernel_rfl, by show 4 ≤ 149; omega, p1, Or.inr rfl, p2, p3⟩
  · simp [R.val] at h)
theorem tpH_get (m : Nat) : aH.get m = if m = 0 then some (.ro (w32 kI8)) else if m = 1 then some (.ro (w32 kL)) else none := by
  unfold aH
  rw [Tr.get_set, Tr.get_set, Tr.get_e]
  by_cases e0 : m = 0
  · subst e0; rfl
  · rw [if_neg (Ne.symm e0), if_neg e0]
    by_cases e1 : m = 1
    · subst e1; rfl
    · rw [if_neg (Ne.symm e1), if_neg e1]
theorem tpH_dom (m : Nat) (hm : aH.get m ≠ none) : m < 2 := by
  rw [tpH_get] at hm
  by_cases e0 : m = 0
  · omega
  · by_cases e1 : m = 1
    · omega
    · rw [if_neg e0, if_neg e1] at hm; simp at hm
def tpW0 (w : World) (sx : Nat → List Value → Prop) (fp : Nat → Prop) : Names := ⟨(glW w).ad, (glW w).sz, sx, fp⟩
theorem tp_hv {w : World} (hf1 : KbK w) (hf2 : KbI w) {sx : Nat → List Value → Prop} {fp : Nat → Prop} (hfp : ∀ a, fp a → a < w.heap.size ∧ a ≠ 0 ∧ a ≠ 1) (hsx : ∀ a us, sx a us → fp a ∧ FzOk w a us) : HV aH.get (tpW0 w sx fp) w := by
  have hG : (tpW0 w sx fp).ad 0 = some 0 ∧ (tpW0 w sx fp).ad 1 = some 1 := ⟨rfl, rfl⟩
  have hz : ∀ g o, g < 2 → w.heap[g]? = some o → (tpW0 w sx fp).sz g = iQ o := fun g o _ h => by show (match w.heap[g]? with | some o => iQ o | none => 0) = _; rw [h]
  obtain ⟨o1, a1, b1⟩ := ro_of (β := tpW0 w sx fp) (ns := kL) (by simp [kL]) hf1
  obtain ⟨o0, a0, b0⟩ := ro_of (β := tpW0 w sx fp) (ns := kI8) (by simp [kI8]) hf2
  refine ⟨fun n o ho => ?_, fun n m a hn hm hna hma => ?_, fun a h => ⟨(hfp a h).1, fun n hn hna => ?_⟩, fun a us h w' hw => (hsx a us h).2.same (hw a (hsx a us h).1)⟩
  · rw [tpH_get] at ho
    by_cases e0 : n = 0
    · subst e0
      rw [if_pos rfl] at ho
      obtain rfl := Option.some.inj ho
      exact ⟨0, o0, hG.1, a0, b0, hz 0 _ (by omega) a0⟩
    · rw [if_neg e0] at ho
      by_cases e1 : n = 1
      · subst e1
        rw [if_pos rfl] at ho
        obtain rfl := Option.some.inj ho
        exact ⟨1, o1, hG.2, a1, b1, hz 1 _ (by omega) a1⟩
      · rw [if_neg e1] at ho; simp at ho
  · have h1 := tpH_dom n hn
    have h2 := tpH_dom m hm
    have : n = 0 ∨ n = 1 := by omega
    have : m = 0 ∨ m = 1 := by omega
    rcases ‹n = 0 ∨ n = 1› with rfl | rfl <;> rcases ‹m = 0 ∨ m = 1› with rfl | rfl
    · rfl
    · rw [hG.1] at hna; rw [hG.2] at hma; have := Option.some.inj hna; have := Option.some.inj hma; omega
    · rw [hG.2] at hna; rw [hG.1] at hma; have := Option.some.inj hna; have := Option.some.inj hma; omega
    · rfl
  · have h1 := tpH_dom n hn
    have h2 := hfp a h
    have : n = 0 ∨ n = 1 := by omega
    rcases this with rfl | rfl
    · rw [hG.1] at hna; exact h2.2.1 (Option.some.inj hna).symm
    · rw [hG.2] at hna; exact h2.2.2 (Option.some.inj hna).symm
theorem tab_cell {w : World} {g : Nat} {ns : List Nat} (h0 : ns ≠ []) (h : Kb w g (ns.map fun n => Value.int .u32 ((n : Nat) : Int)).toArray) {i : Nat} (hi : i < ns.length) {z : Int} (hc : w.cell? ⟨g, i, none⟩ = some (.int .u8 z)) : False := by
  have h1 := h i (.int .u32 ((ns[i] : Nat) : Int)) (by rw [List.getElem?_toArray, List.getElem?_map, List.getElem?_eq_getElem hi]; rfl)
  rw [hc] at h1
  simp at h1
theorem tp_tab : pJ aH.get = true := by kernel_rfl
theorem u8_wr {a : Nat} (h : a < 256) : IntKind.u8.wrap (a : Int) = (a : Int) := by
  rw [lS]; simp [IntKind.signed, IntKind.bits]; omega
theorem topParts_any (a0 : Nat) (a1 : Option Addr) (c1 : Nat) (x1 : List UInt8) (a2 a3 : Nat) (W : World) (hK : KbK W) (hI : KbI W) (hs0 : ∀ i v, W.cell? ⟨0, i, none⟩ = some v → i < 8) (hs1 : ∀ i v, W.cell? ⟨1, i, none⟩ = some v → i < 64) (w0 : a0 < 256) (h1 : Bs W a1 c1 x1) (w2 : a2 < 256) (w3 : a3 < 256) : Calls Tryz.prog 3 #[.int .u8 a0, .slice a1 x1.length c1, .int .u8 a2, .int .u8 a3] W (fun ε w' => ε = .returned (.bool true) ∧ Below W.heap.size W w') := by
  have key : ∀ (β : Names) (bb o n : Nat) (zs : List Int), Gl β → RV β (.fy (.j .u8 bb zs) o n true) (.slice a1 x1.length c1) → HV aH.get β W → Calls Tryz.prog 3 #[.int .u8 a0, .slice a1 x1.length c1, .int .u8 a2, .int .u8 a3] W (fun ε w' => ε = .returned (.bool true) ∧ Below W.heap.size W w') := by
    intro β bb o n zs hG hR hV
    have h := tp_pur [.int true .u8 a0, .fy (.j .u8 bb zs) o n true, .int true .u8 a2, .int true .u8 a3] aH.get (.bool true true) (by unfold tpS; rw [tp_tab]; rfl) β #[.int .u8 a0, .slice a1 x1.length c1, .int .u8 a2, .int .u8 a3] W 64 hG ⟨_, _, rfl, ⟨rfl, fun _ => u8_wr w0⟩, _, _, rfl, hR, _, _, rfl, ⟨rfl, fun _ => u8_wr w2⟩, _, _, rfl, ⟨rfl, fun _ => u8_wr w3⟩, rfl⟩ hV
    refine (calls_of_opw Tryz.func3 rfl (by kernel_rfl) h).mono (fun e w' ⟨u, k1, β', k2, k3, _⟩ => ?_)
    have k3 : u = .bool true := k3
    subst k3
    exact ⟨k1, (k2.upd.mono (fun _ q => by obtain ⟨p, hp, _⟩ := q; simp at hp)).below⟩
  have hGl : ∀ sx fp, Gl (tpW0 W sx fp) := fun sx fp g h => by unfold tpW0 glW; simp [h]
  rcases h1.rows with hr | ⟨p, rfl, hp⟩
  · obtain rfl : x1 = [] := by
      have := congrArg List.length hr
      rw [dJ] at this
      exact List.eq_nil_of_length_eq_zero this
    exact key (tpW0 W (fun _ _ => False) (fun _ => False)) 0 0 0 [] (hGl _ _) ⟨by show 0 + 0 ≤ 0; omega, by omega, Or.inl ⟨_, _, rfl, rfl⟩⟩ (tp_hv hK hI (fun _ h => h.elim) (fun _ _ h => h.elim))
  · by_cases hx : x1 = []
    · subst hx
      exact key (tpW0 W (fun _ _ => False) (fun _ => False)) 0 0 0 [] (hGl _ _) ⟨by show 0 + 0 ≤ 0; omega, by omega, Or.inl ⟨_, _, rfl, rfl⟩⟩ (tp_hv hK hI (fun _ h => h.elim) (fun _ _ h => h.elim))
    · obtain ⟨x, r, rfl⟩ := List.exists_cons_of_ne_nil hx
      obtain ⟨b, off, spot⟩ := p
      have e0 := hp 0 _ rfl
      have hsp : spot = none := by
        cases spot with
        | none => rfl
        | some s =>
          have e1 : (⟨b, off, some s⟩ : Addr).add 0 = ⟨b, off, some s⟩ := rfl
          rw [e1] at e0
          unfold World.cell? at e0
          split at e0 <;> simp at e0
      subst hsp
      have hp' : ∀ (i : Nat) (v : Value), (bs (x :: r))[i]? = some v → W.cell? ⟨b, off + i, none⟩ = some v := fun i v h => by
        have := hp i v h
        rw [bY] at this
        exact this
      have hc0 : W.cell? ⟨b, off, none⟩ = some (.int .u8 (x.toNat : Int)) := hp' 0 _ rfl
      have hb0 : b ≠ 0 := fun e => by
        subst e
        exact tab_cell (ns := kI8) (by simp [kI8]) hI (hs0 _ _ hc0) hc0
      have hb1 : b ≠ 1 := fun e => by
        subst e
        exact tab_cell (ns := kL) (by simp [kL]) hK (hs1 _ _ hc0) hc0
      let us : List Value := List.replicate off (.chan none) ++ bs (x :: r)
      refine key (tpW0 W (fun a u => a = b ∧ u = us) (fun a => a = b)) off 0 (x :: r).length ((x :: r).map fun x => (x.toNat : Int)) (hGl _ _) ⟨?_, ?_, Or.inr ⟨b, off, c1, us, rfl, h1.le, Or.inr ?_, ⟨rfl, rfl⟩, ?_⟩⟩ (tp_hv hK hI (fun a h => ?_) (fun a u h => ?_))
      · show 0 + (x :: r).length ≤ ((x :: r).map fun x => (x.toNat : Int)).length
        rw [List.length_map, Nat.zero_add]; exact Nat.le_refl _
      · have := h1.max; omega
      · show off = 1 * 0 + off; omega
      · intro i z hz
        rw [List.getElem?_map, Option.map_eq_some_iff] at hz
        obtain ⟨y, hy, rfl⟩ := hz
        refine ⟨u8_wr (by have := y.toNat_lt; omega), ?_⟩
        show (List.replicate off (.chan none) ++ bs (x :: r))[off + i]? = _
        rw [List.getElem?_append_right (by simp)]
        rw [List.length_replicate, Nat.add_sub_cancel_left]
        unfold bs
        rw [List.getElem?_map, hy]; rfl
      · obtain rfl := h
        exact ⟨xW hc0, hb0, hb1⟩
      · obtain ⟨rfl, rfl⟩ := h
        refine ⟨rfl, fun j u hj hn => ?_⟩
        by_cases hjo : j < off
        · have : us[j]? = some (.chan none) := by
            show (List.replicate off (.chan none) ++ bs (x :: r))[j]? = _
            rw [List.getElem?_append_left (by simpa using hjo), List.getElem?_replicate, if_pos hjo]
          rw [this] at hj
          exact absurd (Option.some.inj hj).symm hn
        · have hj' : (List.replicate off (.chan none) ++ bs (x :: r))[j]? = some u := hj
          rw [List.getElem?_append_right (by simpa using hjo), List.length_replicate] at hj'
          have := hp' (j - off) u hj'
          rwa [Nat.add_sub_cancel' (by omega)] at this
end Go.Proofs.YtcgdimlbbdfdpaaGreatDoor
