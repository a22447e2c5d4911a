/-
  The law SignRight: the walk.
-/
import Derived.Test.YtoibhbmcplhiaaaDoorSSign
namespace Go.Proofs.YtoibhbmcplhiaaaDoor
open Go Go.RowKit
set_option maxRecDepth 100000
theorem signRightw_any_r1 (h : Nat) (m : Nat) (n : Nat) (w0 : World) (F : World → Prop) : Reg Tryd.prog 0 (regOps Tryd.f6 0) false 89 [(0, (.agg (hB h))), (1, (.agg (hB m))), (2, (.int .u64 ((n : Nat) : Int)))] w0 [] F
    (fun ρ => [(2, (.int .u64 ((n : Nat) : Int))), (3, (pt (nb ρ 0))), (4, (pt (nb ρ 1))), (6, (.bool false))])
    (fun ρ => [(nb ρ 0, (.cells (hB h) 26 (0, 0))), (nb ρ 1, (.cells (hB m) 26 (0, 0)))]) := by
  refine reg_seq [0, 1, 3] [2, 3, 4, 6] 3
    (fun ρ ι => ([(pt (nb ρ 0)), (pt (nb ρ 1)), (.bool false)] : List Value).getD ι undef)
    (fun ρ ι => ([{ news := [(nb ρ 0, (.cells (hB h) 26 (0, 0)))] }, { news := [(nb ρ 1, (.cells (hB m) 26 (0, 0)))] }, {}] : List Eff).getD ι {})
    (by kernel_rfl) (by kernel_rfl) (fun _ => by kernel_rfl) (fun _ => by kernel_rfl) ⟨⟨⟨trivial, ?_⟩, ?_⟩, ?_⟩
  · exact o_run 0 [] [] (fun _ _ => []) (fun _ _ => by kernel_rfl)
  · exact o_run 1 [] [] (fun _ _ => []) (fun _ _ => by kernel_rfl)
  · exact o_run 2 [] [] (fun _ _ => []) (fun _ _ => by kernel_rfl)
theorem signRightw_any_r2 (h : Nat) (m : Nat) (n : Nat) (x : Nat) (hh : h < M) (ex : addmN h 0 qP = x) (ρ1 : Nat → Orc) (w0 : World) : RegF Tryd.prog 1 (regOps Tryd.f6 1) false 89 [(2, (.int .u64 ((n : Nat) : Int))), (3, (pt (nb ρ1 0))), (4, (pt (nb ρ1 1))), (6, (.bool false))] w0 [(nb ρ1 0, (.cells (hB h) 26 (0, 0))), (nb ρ1 1, (.cells (hB m) 26 (0, 0)))] (fun w => Kb w 1 (rowK .u32 64 kN) ∧ Kb w 0 #[(.int .u32 1779033703), (.int .u32 3144134277), (.int .u32 1013904242), (.int .u32 2773480762), (.int .u32 1359893119), (.int .u32 2600822924), (.int .u32 528734635), (.int .u32 1541459225)] ∧ True)
    (fun ρ => [(2, (.int .u64 ((n : Nat) : Int))), (4, (pt (nb ρ1 1))), (6, (.bool false)), (7, (pt (nb ρ 2)))])
    (fun ρ => [(nb ρ1 0, (.cells (hB h) 26 (0, 0))), (nb ρ1 1, (.cells (hB m) 26 (0, 0))), (nb ρ 2, (.cells (cU x) 24 (0, 0)))]) (fun _ => (fun w => Kb w 1 (rowK .u32 64 kN) ∧ Kb w 0 #[(.int .u32 1779033703), (.int .u32 3144134277), (.int .u32 1013904242), (.int .u32 2773480762), (.int .u32 1359893119), (.int .u32 2600822924), (.int .u32 528734635), (.int .u32 1541459225)] ∧ True)) := by
  refine reg_seq_f [0, 1, 3, 7] [2, 4, 6, 7] 4
    (fun ρ ι => ([(.agg (hB h)), (U x), (pt (nb ρ 2)), undef] : List Value).getD ι undef)
    (fun ρ ι => ([{}, {}, { news := [(nb ρ 2, (.cells (cU 0) 24 (0, 0)))] }, { puts := [(18, (.cells (cU x) 24 (0, 0)))] }] : List Eff).getD ι {})
    (fun _ ι => ([(fun _ => True), (fun _ => True), (fun _ => True), (fun _ => True)] : List (World → Prop)).getD ι (fun _ => True))
    (by kernel_rfl) (by kernel_rfl) (fun _ => by kernel_rfl) (fun _ => by kernel_rfl) (fun _ _ hF _ => ⟨hF.1, hF.2.1, trivial⟩) ⟨⟨⟨⟨trivial, ?_⟩, ?_⟩, ?_⟩, ?_⟩
  · exact Obl.brings (o_run 0 [0] [] (fun _ _ => [nb ρ1 0, nb ρ1 0, nb ρ1 0, nb ρ1 0, nb ρ1 0, nb ρ1 0, nb ρ1 0, nb ρ1 0, nb ρ1 0, nb ρ1 0, nb ρ1 0, nb ρ1 0, nb ρ1 0, nb ρ1 0, nb ρ1 0, nb ρ1 0, nb ρ1 0, nb ρ1 0, nb ρ1 0, nb ρ1 0, nb ρ1 0, nb ρ1 0, nb ρ1 0, nb ρ1 0, nb ρ1 0, nb ρ1 0, nb ρ1 0, nb ρ1 0, nb ρ1 0, nb ρ1 0, nb ρ1 0, nb ρ1 0]) (fun _ _ => by kernel_rfl)) (fun _ _ => trivial)
  · exact o_callP 1 23 (fun _ => #[(.agg (hB h))]) (fun _ => (U x)) (fun _ _ => (by kernel_rfl)) (fun _ => (by kernel_rfl)) (fun _ _ => (by kernel_rfl)) (fun _ _ => trivial) (fun _ _ w _ => (by as_aux_lemma => (have hcall := (fun w => rgscalar_any h w hh) w ; rw [ex] at hcall; exact hcall)))
  · exact Obl.brings (o_run 2 [] [] (fun _ _ => []) (fun _ _ => by kernel_rfl)) (fun _ _ => trivial)
  · exact Obl.brings (o_run 3 [18] [] (fun ρ _ => [nb ρ 2, nb ρ 2, nb ρ 2, nb ρ 2]) (fun _ _ => by kernel_rfl)) (fun _ _ => trivial)
theorem signRightw_any_r3 (h : Nat) (m : Nat) (n : Nat) (x : Nat) (p : Nat) (hx : x < M) (ep : pubV x = p) (ρ1 : Nat → Orc) (ρ2 : Nat → Orc) (w0 : World) : RegF Tryd.prog 2 (regOps Tryd.f6 2) false 89 [(2, (.int .u64 ((n : Nat) : Int))), (4, (pt (nb ρ1 1))), (6, (.bool false)), (7, (pt (nb ρ2 2)))] w0 [(nb ρ1 0, (.cells (hB h) 26 (0, 0))), (nb ρ1 1, (.cells (hB m) 26 (0, 0))), (nb ρ2 2, (.cells (cU x) 24 (0, 0)))] (fun w => Kb w 1 (rowK .u32 64 kN) ∧ Kb w 0 #[(.int .u32 1779033703), (.int .u32 3144134277), (.int .u32 1013904242), (.int .u32 2773480762), (.int .u32 1359893119), (.int .u32 2600822924), (.int .u32 528734635), (.int .u32 1541459225)] ∧ True)
    (fun ρ => [(2, (.int .u64 ((n : Nat) : Int))), (4, (pt (nb ρ1 1))), (6, (.bool false)), (7, (pt (nb ρ2 2))), (8, (pt (nb ρ 5))), (9, (.int .i64 (pubE x)))])
    (fun ρ => [(nb ρ1 0, (.cells (hB h) 26 (0, 0))), (nb ρ1 1, (.cells (hB m) 26 (0, 0))), (nb ρ2 2, (.cells (cU x) 24 (0, 0))), (nb ρ 5, (.cells (cU p) 24 (0, 0)))]) (fun _ => (fun w => Kb w 1 (rowK .u32 64 kN) ∧ Kb w 0 #[(.int .u32 1779033703), (.int .u32 3144134277), (.int .u32 1013904242), (.int .u32 2773480762), (.int .u32 1359893119), (.int .u32 2600822924), (.int .u32 528734635), (.int .u32 1541459225)] ∧ True)) := by
  refine reg_seq_f [0, 1, 3, 7, 15, 31, 63, 127] [2, 4, 6, 7, 8, 9] 8
    (fun ρ ι => ([(U x), (.tuple #[(U p), (.int .i64 (pubE x))]), (.tuple #[(U p), (.int .i64 (pubE x))]), (U p), (.int .i64 (pubE x)), (pt (nb ρ 5)), undef, (.int .i64 (pubE x))] : List Value).getD ι undef)
    (fun ρ ι => ([{}, {}, {}, {}, {}, { news := [(nb ρ 5, (.cells (cU 0) 24 (0, 0)))] }, { puts := [(43, (.cells (cU p) 24 (0, 0)))] }, {}] : List Eff).getD ι {})
    (fun _ ι => ([(fun _ => True), (fun _ => True), (fun _ => True), (fun _ => True), (fun _ => True), (fun _ => True), (fun _ => True), (fun _ => True)] : List (World → Prop)).getD ι (fun _ => True))
    (by kernel_rfl) (by kernel_rfl) (fun _ => by kernel_rfl) (fun _ => by kernel_rfl) (fun _ _ hF _ => ⟨hF.1, hF.2.1, trivial⟩) ⟨⟨⟨⟨⟨⟨⟨⟨trivial, ?_⟩, ?_⟩, ?_⟩, ?_⟩, ?_⟩, ?_⟩, ?_⟩, ?_⟩
  · exact Obl.brings (o_run 0 [2] [] (fun _ _ => [nb ρ2 2, nb ρ2 2, nb ρ2 2, nb ρ2 2]) (fun _ _ => by kernel_rfl)) (fun _ _ => trivial)
  · exact o_callP 1 10 (fun _ => #[(U x)]) (fun _ => (.tuple #[(U p), (.int .i64 (pubE x))])) (fun _ _ => (by kernel_rfl)) (fun _ => (by kernel_rfl)) (fun _ _ => (by kernel_rfl)) (fun _ _ => trivial) (fun _ _ w _ => (by as_aux_lemma => (have hcall := (fun w => public_any x hx w) w ; rw [ep] at hcall; exact hcall)))
  · exact Obl.brings (o_run 2 [] [] (fun _ _ => []) (fun _ _ => by kernel_rfl)) (fun _ _ => trivial)
  · exact Obl.brings (o_run 3 [] [] (fun _ _ => []) (fun _ _ => by kernel_rfl)) (fun _ _ => trivial)
  · exact Obl.brings (o_run 4 [] [] (fun _ _ => []) (fun _ _ => by kernel_rfl)) (fun _ _ => trivial)
  · exact Obl.brings (o_run 5 [] [] (fun _ _ => []) (fun _ _ => by kernel_rfl)) (fun _ _ => trivial)
  · exact Obl.brings (o_run 6 [43] [] (fun ρ _ => [nb ρ 5, nb ρ 5, nb ρ 5, nb ρ 5]) (fun _ _ => by kernel_rfl)) (fun _ _ => trivial)
  · exact Obl.brings (o_run 7 [] [] (fun _ _ => []) (fun _ _ => by kernel_rfl)) (fun _ _ => trivial)
theorem signRightw_any_r4 (h : Nat) (m : Nat) (n : Nat) (x : Nat) (p : Nat) (e : Nat) (s : Nat) (hm : m < M) (hx : x < M) (ee : sigE x m = e) (es : sigS x m = s) (ρ1 : Nat → Orc) (ρ2 : Nat → Orc) (ρ3 : Nat → Orc) (w0 : World) : RegF Tryd.prog 3 (regOps Tryd.f6 3) false 89 [(2, (.int .u64 ((n : Nat) : Int))), (4, (pt (nb ρ1 1))), (6, (.bool false)), (7, (pt (nb ρ2 2))), (8, (pt (nb ρ3 5))), (9, (.int .i64 (pubE x)))] w0 [(nb ρ1 0, (.cells (hB h) 26 (0, 0))), (nb ρ1 1, (.cells (hB m) 26 (0, 0))), (nb ρ2 2, (.cells (cU x) 24 (0, 0))), (nb ρ3 5, (.cells (cU p) 24 (0, 0)))] (fun w => Kb w 1 (rowK .u32 64 kN) ∧ Kb w 0 #[(.int .u32 1779033703), (.int .u32 3144134277), (.int .u32 1013904242), (.int .u32 2773480762), (.int .u32 1359893119), (.int .u32 2600822924), (.int .u32 528734635), (.int .u32 1541459225)] ∧ True)
    (fun ρ => [(2, (.int .u64 ((n : Nat) : Int))), (4, (pt (nb ρ1 1))), (6, (.bool false)), (7, (pt (nb ρ2 2))), (8, (pt (nb ρ3 5))), (9, (.int .i64 (pubE x))), (10, (pt (nb ρ 6))), (11, (.int .i64 (pubE x)))])
    (fun ρ => [(nb ρ1 0, (.cells (hB h) 26 (0, 0))), (nb ρ1 1, (.cells (hB m) 26 (0, 0))), (nb ρ2 2, (.cells (cU x) 24 (0, 0))), (nb ρ3 5, (.cells (cU p) 24 (0, 0))), (nb ρ 6, (.cells (cU e ++ cU s) 36 (0, 0)))]) (fun _ => (fun w => Kb w 1 (rowK .u32 64 kN) ∧ Kb w 0 #[(.int .u32 1779033703), (.int .u32 3144134277), (.int .u32 1013904242), (.int .u32 2773480762), (.int .u32 1359893119), (.int .u32 2600822924), (.int .u32 528734635), (.int .u32 1541459225)] ∧ True)) := by
  refine reg_seq_f [0, 1, 3, 7, 15, 31, 63, 127, 255] [2, 4, 6, 7, 8, 9, 10, 11] 9
    (fun ρ ι => ([(U x), (.agg (hB m)), (.tuple #[(.agg (cU e ++ cU s)), (.int .i64 (pubE x))]), (.tuple #[(.agg (cU e ++ cU s)), (.int .i64 (pubE x))]), (.agg (cU e ++ cU s)), (.int .i64 (pubE x)), (pt (nb ρ 6)), undef, (.int .i64 (pubE x))] : List Value).getD ι undef)
    (fun ρ ι => ([{}, {}, {}, {}, {}, {}, { news := [(nb ρ 6, (.cells (cU 0 ++ cU 0) 36 (0, 0)))] }, { puts := [(52, (.cells (cU e ++ cU s) 36 (0, 0)))] }, {}] : List Eff).getD ι {})
    (fun _ ι => ([(fun _ => True), (fun _ => True), (fun _ => True), (fun _ => True), (fun _ => True), (fun _ => True), (fun _ => True), (fun _ => True), (fun _ => True)] : List (World → Prop)).getD ι (fun _ => True))
    (by kernel_rfl) (by kernel_rfl) (fun _ => by kernel_rfl) (fun _ => by kernel_rfl) (fun _ _ hF _ => ⟨hF.1, hF.2.1, trivial⟩) ⟨⟨⟨⟨⟨⟨⟨⟨⟨trivial, ?_⟩, ?_⟩, ?_⟩, ?_⟩, ?_⟩, ?_⟩, ?_⟩, ?_⟩, ?_⟩
  · exact Obl.brings (o_run 0 [2] [] (fun _ _ => [nb ρ2 2, nb ρ2 2, nb ρ2 2, nb ρ2 2]) (fun _ _ => by kernel_rfl)) (fun _ _ => trivial)
  · exact Obl.brings (o_run 1 [1] [] (fun _ _ => [nb ρ1 1, nb ρ1 1, nb ρ1 1, nb ρ1 1, nb ρ1 1, nb ρ1 1, nb ρ1 1, nb ρ1 1, nb ρ1 1, nb ρ1 1, nb ρ1 1, nb ρ1 1, nb ρ1 1, nb ρ1 1, nb ρ1 1, nb ρ1 1, nb ρ1 1, nb ρ1 1, nb ρ1 1, nb ρ1 1, nb ρ1 1, nb ρ1 1, nb ρ1 1, nb ρ1 1, nb ρ1 1, nb ρ1 1, nb ρ1 1, nb ρ1 1, nb ρ1 1, nb ρ1 1, nb ρ1 1, nb ρ1 1]) (fun _ _ => by kernel_rfl)) (fun _ _ => trivial)
  · exact o_callP 2 19 (fun _ => #[(U x), (.agg (hB m))]) (fun _ => (.tuple #[(.agg (cU e ++ cU s)), (.int .i64 (pubE x))])) (fun _ _ => (by kernel_rfl)) (fun _ => (by kernel_rfl)) (fun _ _ => (by kernel_rfl)) (fun _ _ => trivial) (fun _ _ w hG => (by as_aux_lemma => (have hcall := sign_any x m hx hm w hG.facts0.now.1 hG.facts0.now.2.1; rw [ee, es] at hcall; exact hcall)))
  · exact Obl.brings (o_run 3 [] [] (fun _ _ => []) (fun _ _ => by kernel_rfl)) (fun _ _ => trivial)
  · exact Obl.brings (o_run 4 [] [] (fun _ _ => []) (fun _ _ => by kernel_rfl)) (fun _ _ => trivial)
  · exact Obl.brings (o_run 5 [] [] (fun _ _ => []) (fun _ _ => by kernel_rfl)) (fun _ _ => trivial)
  · exact Obl.brings (o_run 6 [] [] (fun _ _ => []) (fun _ _ => by kernel_rfl)) (fun _ _ => trivial)
  · exact Obl.brings (o_run 7 [52] [] (fun ρ _ => [nb ρ 6, nb ρ 6, nb ρ 6, nb ρ 6, nb ρ 6, nb ρ 6, nb ρ 6, nb ρ 6]) (fun _ _ => by kernel_rfl)) (fun _ _ => trivial)
  · exact Obl.brings (o_run 8 [] [] (fun _ _ => []) (fun _ _ => by kernel_rfl)) (fun _ _ => trivial)
theorem signRightw_any_r5 (h : Nat) (m : Nat) (n : Nat) (x : Nat) (p : Nat) (e : Nat) (s : Nat) (ρ1 : Nat → Orc) (ρ2 : Nat → Orc) (ρ3 : Nat → Orc) (ρ4 : Nat → Orc) (w0 : World) : RegF Tryd.prog 4 (regOps Tryd.f6 4) false 89 [(2, (.int .u64 ((n : Nat) : Int))), (4, (pt (nb ρ1 1))), (6, (.bool false)), (7, (pt (nb ρ2 2))), (8, (pt (nb ρ3 5))), (9, (.int .i64 (pubE x))), (10, (pt (nb ρ4 6))), (11, (.int .i64 (pubE x)))] w0 [(nb ρ1 0, (.cells (hB h) 26 (0, 0))), (nb ρ1 1, (.cells (hB m) 26 (0, 0))), (nb ρ2 2, (.cells (cU x) 24 (0, 0))), (nb ρ3 5, (.cells (cU p) 24 (0, 0))), (nb ρ4 6, (.cells (cU e ++ cU s) 36 (0, 0)))] (fun w => Kb w 1 (rowK .u32 64 kN) ∧ Kb w 0 #[(.int .u32 1779033703), (.int .u32 3144134277), (.int .u32 1013904242), (.int .u32 2773480762), (.int .u32 1359893119), (.int .u32 2600822924), (.int .u32 528734635), (.int .u32 1541459225)] ∧ True)
    (fun _ => [(2, (.int .u64 ((n : Nat) : Int))), (4, (pt (nb ρ1 1))), (6, (.bool false)), (7, (pt (nb ρ2 2))), (8, (pt (nb ρ3 5))), (9, (.int .i64 (pubE x))), (10, (pt (nb ρ4 6))), (34, (.bool false))])
    (fun _ => [(nb ρ1 0, (.cells (hB h) 26 (0, 0))), (nb ρ1 1, (.cells (hB m) 26 (0, 0))), (nb ρ2 2, (.cells (cU x) 24 (0, 0))), (nb ρ3 5, (.cells (cU p) 24 (0, 0))), (nb ρ4 6, (.cells (cU e ++ cU s) 36 (0, 0)))]) (fun _ => (fun w => Kb w 1 (rowK .u32 64 kN) ∧ Kb w 0 #[(.int .u32 1779033703), (.int .u32 3144134277), (.int .u32 1013904242), (.int .u32 2773480762), (.int .u32 1359893119), (.int .u32 2600822924), (.int .u32 528734635), (.int .u32 1541459225)] ∧ True)) := by
  refine reg_seq_f [0, 1, 3, 7, 15, 31, 63] [2, 4, 6, 7, 8, 9, 10, 34] 7
    (fun _ ι => ([(.bool true), (.bool false), (.bool false), (.int .i64 (pubE x)), (.int .i64 (pubE x)), (.bool false), (.bool false)] : List Value).getD ι undef)
    (fun _ ι => ([{}, {}, {}, {}, {}, {}, {}] : List Eff).getD ι {})
    (fun _ ι => ([(fun _ => True), (fun _ => True), (fun _ => True), (fun _ => True), (fun _ => True), (fun _ => True), (fun _ => True)] : List (World → Prop)).getD ι (fun _ => True))
    (by kernel_rfl) (by kernel_rfl) (fun _ => by kernel_rfl) (fun _ => by kernel_rfl) (fun _ _ hF _ => ⟨hF.1, hF.2.1, trivial⟩) ⟨⟨⟨⟨⟨⟨⟨trivial, ?_⟩, ?_⟩, ?_⟩, ?_⟩, ?_⟩, ?_⟩, ?_⟩
  · exact o_callP 0 12 (fun _ => #[]) (fun _ => (.bool true)) (fun _ _ => (by kernel_rfl)) (fun _ => (by kernel_rfl)) (fun _ _ => (by kernel_rfl)) (fun _ _ => trivial) (fun _ _ w hG => ssane_any w hG.facts0.now.1 hG.facts0.now.2.1)
  · exact Obl.brings (o_run 1 [] [] (fun _ _ => []) (fun _ _ => by kernel_rfl)) (fun _ _ => trivial)
  · exact Obl.brings (o_run 2 [] [] (fun _ _ => []) (fun _ _ => by kernel_rfl)) (fun _ _ => trivial)
  · exact Obl.brings (o_run 3 [] [] (fun _ _ => []) (fun _ _ => by kernel_rfl)) (fun _ _ => trivial)
  · exact Obl.brings (o_run 4 [] [] (fun _ _ => []) (fun _ _ => by kernel_rfl)) (fun _ _ => trivial)
  · exact Obl.brings (o_as 5 (fun _ => (.bool ((pubE x) != (pubE x)))) (fun _ => (.bool false)) (fun _ _ => by kernel_rfl) (fun _ => congrArg Value.bool (bne_self_eq_false _))) (fun _ _ => trivial)
  · exact Obl.brings (o_run 6 [] [] (fun _ _ => []) (fun _ _ => by kernel_rfl)) (fun _ _ => trivial)
theorem signRightw_any_r6 (h : Nat) (m : Nat) (n : Nat) (x : Nat) (p : Nat) (e : Nat) (s : Nat) (ρ1 : Nat → Orc) (ρ2 : Nat → Orc) (ρ3 : Nat → Orc) (ρ4 : Nat → Orc) (w0 : World) (F : World → Prop) : Reg Tryd.prog 6 (regOps Tryd.f6 6) false 89 [(2, (.int .u64 ((n : Nat) : Int))), (4, (pt (nb ρ1 1))), (6, (.bool false)), (7, (pt (nb ρ2 2))), (8, (pt (nb ρ3 5))), (9, (.int .i64 (pubE x))), (10, (pt (nb ρ4 6))), (34, (.bool false))] w0 [(nb ρ1 0, (.cells (hB h) 26 (0, 0))), (nb ρ1 1, (.cells (hB m) 26 (0, 0))), (nb ρ2 2, (.cells (cU x) 24 (0, 0))), (nb ρ3 5, (.cells (cU p) 24 (0, 0))), (nb ρ4 6, (.cells (cU e ++ cU s) 36 (0, 0)))] F
    (fun _ => [(2, (.int .u64 ((n : Nat) : Int))), (4, (pt (nb ρ1 1))), (6, (.bool false)), (7, (pt (nb ρ2 2))), (8, (pt (nb ρ3 5))), (10, (pt (nb ρ4 6))), (36, (.bool ((pubE x) != 0)))])
    (fun _ => [(nb ρ1 0, (.cells (hB h) 26 (0, 0))), (nb ρ1 1, (.cells (hB m) 26 (0, 0))), (nb ρ2 2, (.cells (cU x) 24 (0, 0))), (nb ρ3 5, (.cells (cU p) 24 (0, 0))), (nb ρ4 6, (.cells (cU e ++ cU s) 36 (0, 0)))]) := by
  refine reg_seq [0, 1] [2, 4, 6, 7, 8, 10, 36] 2
    (fun _ ι => ([(.int .i64 (pubE x)), (.bool ((pubE x) != 0))] : List Value).getD ι undef)
    (fun _ ι => ([{}, {}] : List Eff).getD ι {})
    (by kernel_rfl) (by kernel_rfl) (fun _ => by kernel_rfl) (fun _ => by kernel_rfl) ⟨⟨trivial, ?_⟩, ?_⟩
  · exact o_run 0 [] [] (fun _ _ => []) (fun _ _ => by kernel_rfl)
  · exact o_run 1 [] [] (fun _ _ => []) (fun _ _ => by kernel_rfl)
theorem signRightw_any_r7 (h : Nat) (m : Nat) (n : Nat) (x : Nat) (p : Nat) (e : Nat) (s : Nat) (hx : x < M) (ex : addmN h 0 qP = x) (hb1 : ((pubE x) != 0) = true) (ρ1 : Nat → Orc) (ρ2 : Nat → Orc) (ρ3 : Nat → Orc) (ρ4 : Nat → Orc) (w0 : World) (F : World → Prop) : Reg Tryd.prog 7 (regOps Tryd.f6 7) false 89 [(2, (.int .u64 ((n : Nat) : Int))), (4, (pt (nb ρ1 1))), (6, (.bool false)), (7, (pt (nb ρ2 2))), (8, (pt (nb ρ3 5))), (10, (pt (nb ρ4 6))), (36, (.bool true))] w0 [(nb ρ1 0, (.cells (hB h) 26 (0, 0))), (nb ρ1 1, (.cells (hB m) 26 (0, 0))), (nb ρ2 2, (.cells (cU x) 24 (0, 0))), (nb ρ3 5, (.cells (cU p) 24 (0, 0))), (nb ρ4 6, (.cells (cU e ++ cU s) 36 (0, 0)))] F
    (fun _ => [(2, (.int .u64 ((n : Nat) : Int))), (4, (pt (nb ρ1 1))), (6, (.bool true)), (8, (pt (nb ρ3 5))), (10, (pt (nb ρ4 6)))])
    (fun _ => [(nb ρ1 0, (.cells (hB h) 26 (0, 0))), (nb ρ1 1, (.cells (hB m) 26 (0, 0))), (nb ρ2 2, (.cells (cU x) 24 (0, 0))), (nb ρ3 5, (.cells (cU p) 24 (0, 0))), (nb ρ4 6, (.cells (cU e ++ cU s) 36 (0, 0)))]) := by
  refine reg_seq [0, 1, 3, 7] [2, 4, 6, 8, 10] 4
    (fun _ ι => ([(U x), (U 0), (.bool true), (.bool true)] : List Value).getD ι undef)
    (fun _ ι => ([{}, {}, {}, {}] : List Eff).getD ι {})
    (by kernel_rfl) (by kernel_rfl) (fun _ => by kernel_rfl) (fun _ => by kernel_rfl) ⟨⟨⟨⟨trivial, ?_⟩, ?_⟩, ?_⟩, ?_⟩
  · exact o_run 0 [2] [] (fun _ _ => [nb ρ2 2, nb ρ2 2, nb ρ2 2, nb ρ2 2]) (fun _ _ => by kernel_rfl)
  · exact o_run 1 [] [] (fun _ _ => []) (fun _ _ => by kernel_rfl)
  · exact o_bin 2 .eql 24 (fun _ => (U x)) (fun _ => (U 0)) (fun _ => (.bool true)) (fun _ => by kernel_rfl) (fun _ _ _ _ => by kernel_rfl) (fun _ _ => (eqlU x 0 hx (by decide +kernel) _).trans (by rw [(decide_eq_true (sec_scal ex hb1))]; try rfl))
  · exact o_run 3 [] [] (fun _ _ => []) (fun _ _ => by kernel_rfl)
theorem signRightw_any_r8 (h : Nat) (m : Nat) (n : Nat) (x : Nat) (p : Nat) (e : Nat) (s : Nat) (ρ1 : Nat → Orc) (ρ2 : Nat → Orc) (ρ3 : Nat → Orc) (ρ4 : Nat → Orc) (w0 : World) (F : World → Prop) : Reg Tryd.prog 8 (regOps Tryd.f6 8) false 89 [(2, (.int .u64 ((n : Nat) : Int))), (4, (pt (nb ρ1 1))), (6, (.bool false)), (7, (pt (nb ρ2 2))), (8, (pt (nb ρ3 5))), (10, (pt (nb ρ4 6))), (36, (.bool false))] w0 [(nb ρ1 0, (.cells (hB h) 26 (0, 0))), (nb ρ1 1, (.cells (hB m) 26 (0, 0))), (nb ρ2 2, (.cells (cU x) 24 (0, 0))), (nb ρ3 5, (.cells (cU p) 24 (0, 0))), (nb ρ4 6, (.cells (cU e ++ cU s) 36 (0, 0)))] F
    (fun ρ => [(2, (.int .u64 ((n : Nat) : Int))), (4, (pt (nb ρ1 1))), (6, (.bool false)), (8, (pt (nb ρ3 5))), (10, (pt (nb ρ4 6))), (12, (pt (nb ρ 1)))])
    (fun ρ => [(nb ρ1 0, (.cells (hB h) 26 (0, 0))), (nb ρ1 1, (.cells (hB m) 26 (0, 0))), (nb ρ2 2, (.cells (cU x) 24 (0, 0))), (nb ρ3 5, (.cells (cU p) 24 (0, 0))), (nb ρ4 6, (.cells (cU e ++ cU s) 36 (0, 0))), (nb ρ 1, (.cells (cU e ++ cU s) 36 (0, 0)))]) := by
  refine reg_seq [0, 1, 3] [2, 4, 6, 8, 10, 12] 3
    (fun ρ ι => ([(.agg (cU e ++ cU s)), (pt (nb ρ 1)), undef] : List Value).getD ι undef)
    (fun ρ ι => ([{}, { news := [(nb ρ 1, (.cells (cU 0 ++ cU 0) 36 (0, 0)))] }, { puts := [(13, (.cells (cU e ++ cU s) 36 (0, 0)))] }] : List Eff).getD ι {})
    (by kernel_rfl) (by kernel_rfl) (fun _ => by kernel_rfl) (fun _ => by kernel_rfl) ⟨⟨⟨trivial, ?_⟩, ?_⟩, ?_⟩
  · exact o_run 0 [4] [] (fun _ _ => [nb ρ4 6, nb ρ4 6, nb ρ4 6, nb ρ4 6, nb ρ4 6, nb ρ4 6, nb ρ4 6, nb ρ4 6]) (fun _ _ => by kernel_rfl)
  · exact o_run 1 [] [] (fun _ _ => []) (fun _ _ => by kernel_rfl)
  · exact o_run 2 [13] [] (fun ρ _ => [nb ρ 1, nb ρ 1, nb ρ 1, nb ρ 1, nb ρ 1, nb ρ 1, nb ρ 1, nb ρ 1]) (fun _ _ => by kernel_rfl)
theorem signRightw_any_r9 (h : Nat) (m : Nat) (n : Nat) (x : Nat) (p : Nat) (e : Nat) (s : Nat) (r : Nat) (hn : n < 18446744073709551616) (hs : s < M) (er : addmN s (((n : Nat) : Int).toNat) qP = r) (ρ1 : Nat → Orc) (ρ2 : Nat → Orc) (ρ3 : Nat → Orc) (ρ4 : Nat → Orc) (ρ8 : Nat → Orc) (w0 : World) : RegF Tryd.prog 9 (regOps Tryd.f6 9) false 89 [(2, (.int .u64 ((n : Nat) : Int))), (4, (pt (nb ρ1 1))), (6, (.bool false)), (8, (pt (nb ρ3 5))), (10, (pt (nb ρ4 6))), (12, (pt (nb ρ8 1)))] w0 [(nb ρ1 0, (.cells (hB h) 26 (0, 0))), (nb ρ1 1, (.cells (hB m) 26 (0, 0))), (nb ρ2 2, (.cells (cU x) 24 (0, 0))), (nb ρ3 5, (.cells (cU p) 24 (0, 0))), (nb ρ4 6, (.cells (cU e ++ cU s) 36 (0, 0))), (nb ρ8 1, (.cells (cU e ++ cU s) 36 (0, 0)))] (fun w => Kb w 1 (rowK .u32 64 kN) ∧ Kb w 0 #[(.int .u32 1779033703), (.int .u32 3144134277), (.int .u32 1013904242), (.int .u32 2773480762), (.int .u32 1359893119), (.int .u32 2600822924), (.int .u32 528734635), (.int .u32 1541459225)] ∧ True)
    (fun _ => [(4, (pt (nb ρ1 1))), (6, (.bool false)), (8, (pt (nb ρ3 5))), (10, (pt (nb ρ4 6))), (12, (pt (nb ρ8 1)))])
    (fun _ => [(nb ρ1 0, (.cells (hB h) 26 (0, 0))), (nb ρ1 1, (.cells (hB m) 26 (0, 0))), (nb ρ2 2, (.cells (cU x) 24 (0, 0))), (nb ρ3 5, (.cells (cU p) 24 (0, 0))), (nb ρ4 6, (.cells (cU e ++ cU s) 36 (0, 0))), (nb ρ8 1, (.cells (cU e ++ cU r) 36 (0, 0)))]) (fun _ => (fun w => Kb w 1 (rowK .u32 64 kN) ∧ Kb w 0 #[(.int .u32 1779033703), (.int .u32 3144134277), (.int .u32 1013904242), (.int .u32 2773480762), (.int .u32 1359893119), (.int .u32 2600822924), (.int .u32 528734635), (.int .u32 1541459225)] ∧ True)) := by
  refine reg_seq_f [0, 1, 3, 7, 15, 31, 63] [4, 6, 8, 10, 12] 7
    (fun _ ι => ([(.pointer (some ⟨nb ρ4 6, 4, none⟩)), (U s), (.int .u64 ((n : Nat) : Int)), (U (((n : Nat) : Int).toNat)), (U r), (.pointer (some ⟨nb ρ8 1, 4, none⟩)), undef] : List Value).getD ι undef)
    (fun _ ι => ([{}, {}, {}, {}, {}, {}, { puts := [(5, (.cells (cU e ++ cU r) 36 (0, 0)))] }] : List Eff).getD ι {})
    (fun _ ι => ([(fun _ => True), (fun _ => True), (fun _ => True), (fun _ => True), (fun _ => True), (fun _ => True), (fun _ => True)] : List (World → Prop)).getD ι (fun _ => True))
    (by kernel_rfl) (by kernel_rfl) (fun _ => by kernel_rfl) (fun _ => by kernel_rfl) (fun _ _ hF _ => ⟨hF.1, hF.2.1, trivial⟩) ⟨⟨⟨⟨⟨⟨⟨trivial, ?_⟩, ?_⟩, ?_⟩, ?_⟩, ?_⟩, ?_⟩, ?_⟩
  · exact Obl.brings (o_run 0 [] [] (fun _ _ => []) (fun _ _ => by kernel_rfl)) (fun _ _ => trivial)
  · exact Obl.brings (o_run 1 [4] [] (fun _ _ => [nb ρ4 6, nb ρ4 6, nb ρ4 6, nb ρ4 6]) (fun _ _ => by kernel_rfl)) (fun _ _ => trivial)
  · exact Obl.brings (o_run 2 [] [] (fun _ _ => []) (fun _ _ => by kernel_rfl)) (fun _ _ => trivial)
  · exact Obl.brings (o_as 3 (fun _ => (.agg #[(.int .u64 ((n : Nat) : Int)), (.int .u64 0), (.int .u64 0), (.int .u64 0)])) (fun _ => (U (((n : Nat) : Int).toNat))) (fun _ _ => by kernel_rfl) (fun _ => U_word (show Word ((n : Nat) : Int) from ⟨by omega, by have := hn; omega⟩))) (fun _ _ => trivial)
  · exact o_callP 4 24 (fun _ => #[(U s), (U (((n : Nat) : Int).toNat))]) (fun _ => (U r)) (fun _ _ => (by kernel_rfl)) (fun _ => (by kernel_rfl)) (fun _ _ => (by kernel_rfl)) (fun _ _ => trivial) (fun _ _ w _ => (by as_aux_lemma => (have hcall := (fun w => rgaddscalar_any s (((n : Nat) : Int).toNat) w hs (word_ltM (show Word ((n : Nat) : Int) from ⟨by omega, by have := hn; omega⟩))) w ; rw [er] at hcall; exact hcall)))
  · exact Obl.brings (o_run 5 [] [] (fun _ _ => []) (fun _ _ => by kernel_rfl)) (fun _ _ => trivial)
  · exact Obl.brings (o_run 6 [5] [] (fun _ _ => [nb ρ8 1, nb ρ8 1, nb ρ8 1, nb ρ8 1]) (fun _ _ => by kernel_rfl)) (fun _ _ => trivial)
theorem signRightw_any_r10 (h : Nat) (m : Nat) (x : Nat) (p : Nat) (e : Nat) (s : Nat) (r : Nat) (hm : m < M) (hp : p < M) (he : e < M) (hs : s < M) (ep : pubV x = p) (ee : sigE x m = e) (es : sigS x m = s) (hb1 : ((pubE x) != 0) = false) (ρ1 : Nat → Orc) (ρ2 : Nat → Orc) (ρ3 : Nat → Orc) (ρ4 : Nat → Orc) (ρ8 : Nat → Orc) (w0 : World) : RegF Tryd.prog 10 (regOps Tryd.f6 10) false 89 [(4, (pt (nb ρ1 1))), (6, (.bool false)), (8, (pt (nb ρ3 5))), (10, (pt (nb ρ4 6))), (12, (pt (nb ρ8 1)))] w0 [(nb ρ1 0, (.cells (hB h) 26 (0, 0))), (nb ρ1 1, (.cells (hB m) 26 (0, 0))), (nb ρ2 2, (.cells (cU x) 24 (0, 0))), (nb ρ3 5, (.cells (cU p) 24 (0, 0))), (nb ρ4 6, (.cells (cU e ++ cU s) 36 (0, 0))), (nb ρ8 1, (.cells (cU e ++ cU r) 36 (0, 0)))] (fun w => Kb w 1 (rowK .u32 64 kN) ∧ Kb w 0 #[(.int .u32 1779033703), (.int .u32 3144134277), (.int .u32 1013904242), (.int .u32 2773480762), (.int .u32 1359893119), (.int .u32 2600822924), (.int .u32 528734635), (.int .u32 1541459225)] ∧ True)
    (fun _ => [(4, (pt (nb ρ1 1))), (6, (.bool false)), (8, (pt (nb ρ3 5))), (10, (pt (nb ρ4 6))), (12, (pt (nb ρ8 1))), (56, (.bool false))])
    (fun _ => [(nb ρ1 0, (.cells (hB h) 26 (0, 0))), (nb ρ1 1, (.cells (hB m) 26 (0, 0))), (nb ρ2 2, (.cells (cU x) 24 (0, 0))), (nb ρ3 5, (.cells (cU p) 24 (0, 0))), (nb ρ4 6, (.cells (cU e ++ cU s) 36 (0, 0))), (nb ρ8 1, (.cells (cU e ++ cU r) 36 (0, 0)))]) (fun _ => (fun w => Kb w 1 (rowK .u32 64 kN) ∧ Kb w 0 #[(.int .u32 1779033703), (.int .u32 3144134277), (.int .u32 1013904242), (.int .u32 2773480762), (.int .u32 1359893119), (.int .u32 2600822924), (.int .u32 528734635), (.int .u32 1541459225)] ∧ True)) := by
  refine reg_seq_f [0, 1, 3, 7, 15, 31, 63, 127, 255, 511] [4, 6, 8, 10, 12, 56] 10
    (fun _ ι => ([(U p), (.bool true), (.bool false), (.bool false), (U p), (.agg (hB m)), (.agg (cU e ++ cU s)), (.bool true), (.bool false), (.bool false)] : List Value).getD ι undef)
    (fun _ ι => ([{}, {}, {}, {}, {}, {}, {}, {}, {}, {}] : List Eff).getD ι {})
    (fun _ ι => ([(fun _ => True), (fun _ => True), (fun _ => True), (fun _ => True), (fun _ => True), (fun _ => True), (fun _ => True), (fun _ => True), (fun _ => True), (fun _ => True)] : List (World → Prop)).getD ι (fun _ => True))
    (by kernel_rfl) (by kernel_rfl) (fun _ => by kernel_rfl) (fun _ => by kernel_rfl) (fun _ _ hF _ => ⟨hF.1, hF.2.1, trivial⟩) ⟨⟨⟨⟨⟨⟨⟨⟨⟨⟨trivial, ?_⟩, ?_⟩, ?_⟩, ?_⟩, ?_⟩, ?_⟩, ?_⟩, ?_⟩, ?_⟩, ?_⟩
  · exact Obl.brings (o_run 0 [3] [] (fun _ _ => [nb ρ3 5, nb ρ3 5, nb ρ3 5, nb ρ3 5]) (fun _ _ => by kernel_rfl)) (fun _ _ => trivial)
  · exact Obl.brings (o_call 1 13 (fun _ => #[(U p)]) (fun _ => (.bool true)) (fun _ _ => by kernel_rfl) (fun _ w => by as_aux_lemma => (have hcall := (fun w => valid_any p hp w) w; rw [(show valB p = true by rw [(show p = expmN 4 x pP by rw [← ep, (pub_yes (pubE_ok hb1)).1])]; exact val_pub (pubE_ok hb1))] at hcall; exact hcall))) (fun _ _ => trivial)
  · exact Obl.brings (o_run 2 [] [] (fun _ _ => []) (fun _ _ => by kernel_rfl)) (fun _ _ => trivial)
  · exact Obl.brings (o_run 3 [] [] (fun _ _ => []) (fun _ _ => by kernel_rfl)) (fun _ _ => trivial)
  · exact Obl.brings (o_run 4 [3] [] (fun _ _ => [nb ρ3 5, nb ρ3 5, nb ρ3 5, nb ρ3 5]) (fun _ _ => by kernel_rfl)) (fun _ _ => trivial)
  · exact Obl.brings (o_run 5 [1] [] (fun _ _ => [nb ρ1 1, nb ρ1 1, nb ρ1 1, nb ρ1 1, nb ρ1 1, nb ρ1 1, nb ρ1 1, nb ρ1 1, nb ρ1 1, nb ρ1 1, nb ρ1 1, nb ρ1 1, nb ρ1 1, nb ρ1 1, nb ρ1 1, nb ρ1 1, nb ρ1 1, nb ρ1 1, nb ρ1 1, nb ρ1 1, nb ρ1 1, nb ρ1 1, nb ρ1 1, nb ρ1 1, nb ρ1 1, nb ρ1 1, nb ρ1 1, nb ρ1 1, nb ρ1 1, nb ρ1 1, nb ρ1 1, nb ρ1 1]) (fun _ _ => by kernel_rfl)) (fun _ _ => trivial)
  · exact Obl.brings (o_run 6 [4] [] (fun _ _ => [nb ρ4 6, nb ρ4 6, nb ρ4 6, nb ρ4 6, nb ρ4 6, nb ρ4 6, nb ρ4 6, nb ρ4 6]) (fun _ _ => by kernel_rfl)) (fun _ _ => trivial)
  · exact o_callP 7 21 (fun _ => #[(U p), (.agg (hB m)), (.agg (cU e ++ cU s))]) (fun _ => (.bool true)) (fun _ _ => (by kernel_rfl)) (fun _ => (by kernel_rfl)) (fun _ _ => (by kernel_rfl)) (fun _ _ => trivial) (fun _ _ w hG => (by as_aux_lemma => (have hcall := verify_any p m e s hp hm he hs w hG.facts0.now.1 hG.facts0.now.2.1; rw [(show verB p m e s = true by rw [← ep, ← ee, ← es]; exact right (pubE_ok hb1))] at hcall; exact hcall)))
  · exact Obl.brings (o_run 8 [] [] (fun _ _ => []) (fun _ _ => by kernel_rfl)) (fun _ _ => trivial)
  · exact Obl.brings (o_run 9 [] [] (fun _ _ => []) (fun _ _ => by kernel_rfl)) (fun _ _ => trivial)
theorem signRightw_any_r11 (h : Nat) (m : Nat) (x : Nat) (p : Nat) (e : Nat) (s : Nat) (r : Nat) (hs : s < M) (hr : r < M) (hb2 : (decide (r = s)) = true) (ρ1 : Nat → Orc) (ρ2 : Nat → Orc) (ρ3 : Nat → Orc) (ρ4 : Nat → Orc) (ρ8 : Nat → Orc) (w0 : World) (F : World → Prop) : Reg Tryd.prog 12 (regOps Tryd.f6 12) false 89 [(4, (pt (nb ρ1 1))), (6, (.bool false)), (8, (pt (nb ρ3 5))), (10, (pt (nb ρ4 6))), (12, (pt (nb ρ8 1))), (56, (.bool false))] w0 [(nb ρ1 0, (.cells (hB h) 26 (0, 0))), (nb ρ1 1, (.cells (hB m) 26 (0, 0))), (nb ρ2 2, (.cells (cU x) 24 (0, 0))), (nb ρ3 5, (.cells (cU p) 24 (0, 0))), (nb ρ4 6, (.cells (cU e ++ cU s) 36 (0, 0))), (nb ρ8 1, (.cells (cU e ++ cU r) 36 (0, 0)))] F
    (fun _ => [(4, (pt (nb ρ1 1))), (6, (.bool false)), (8, (pt (nb ρ3 5))), (10, (pt (nb ρ4 6))), (12, (pt (nb ρ8 1))), (68, (.bool true))])
    (fun _ => [(nb ρ1 0, (.cells (hB h) 26 (0, 0))), (nb ρ1 1, (.cells (hB m) 26 (0, 0))), (nb ρ2 2, (.cells (cU x) 24 (0, 0))), (nb ρ3 5, (.cells (cU p) 24 (0, 0))), (nb ρ4 6, (.cells (cU e ++ cU s) 36 (0, 0))), (nb ρ8 1, (.cells (cU e ++ cU r) 36 (0, 0)))]) := by
  refine reg_seq [0, 1, 3, 7, 15, 31, 63, 127, 255, 511, 1023, 2047] [4, 6, 8, 10, 12, 68] 12
    (fun _ ι => ([(.pointer (some ⟨nb ρ8 1, 4, none⟩)), (U r), (.pointer (some ⟨nb ρ4 6, 4, none⟩)), (U s), (.bool true), (.bool true), undef, undef, undef, undef, undef, (.bool true)] : List Value).getD ι undef)
    (fun _ ι => ([{}, {}, {}, {}, {}, {}, {}, {}, {}, {}, {}, {}] : List Eff).getD ι {})
    (by kernel_rfl) (by kernel_rfl) (fun _ => by kernel_rfl) (fun _ => by kernel_rfl) ⟨⟨⟨⟨⟨⟨⟨⟨⟨⟨⟨⟨trivial, ?_⟩, ?_⟩, ?_⟩, ?_⟩, ?_⟩, ?_⟩, ?_⟩, ?_⟩, ?_⟩, ?_⟩, ?_⟩, ?_⟩
  · exact o_run 0 [] [] (fun _ _ => []) (fun _ _ => by kernel_rfl)
  · exact o_run 1 [5] [] (fun _ _ => [nb ρ8 1, nb ρ8 1, nb ρ8 1, nb ρ8 1]) (fun _ _ => by kernel_rfl)
  · exact o_run 2 [] [] (fun _ _ => []) (fun _ _ => by kernel_rfl)
  · exact o_run 3 [4] [] (fun _ _ => [nb ρ4 6, nb ρ4 6, nb ρ4 6, nb ρ4 6]) (fun _ _ => by kernel_rfl)
  · exact o_bin 4 .eql 24 (fun _ => (U r)) (fun _ => (U s)) (fun _ => (.bool true)) (fun _ => by kernel_rfl) (fun _ _ _ _ => by kernel_rfl) (fun _ _ => (eqlU r s hr hs _).trans (by rw [hb2]; try rfl))
  · exact o_run 5 [] [] (fun _ _ => []) (fun _ _ => by kernel_rfl)
  · exact o_skip 6 (fun _ => by kernel_rfl)
  · exact o_skip 7 (fun _ => by kernel_rfl)
  · exact o_skip 8 (fun _ => by kernel_rfl)
  · exact o_skip 9 (fun _ => by kernel_rfl)
  · exact o_skip 10 (fun _ => by kernel_rfl)
  · exact o_run 11 [] [] (fun _ _ => []) (fun _ _ => by kernel_rfl)
theorem signRightw_any_r12 (h : Nat) (m : Nat) (x : Nat) (p : Nat) (e : Nat) (s : Nat) (r : Nat) (ρ1 : Nat → Orc) (ρ2 : Nat → Orc) (ρ3 : Nat → Orc) (ρ4 : Nat → Orc) (ρ8 : Nat → Orc) (w0 : World) (F : World → Prop) : Reg Tryd.prog 13 (regOps Tryd.f6 13) false 89 [(4, (pt (nb ρ1 1))), (6, (.bool false)), (8, (pt (nb ρ3 5))), (10, (pt (nb ρ4 6))), (12, (pt (nb ρ8 1))), (68, (.bool true))] w0 [(nb ρ1 0, (.cells (hB h) 26 (0, 0))), (nb ρ1 1, (.cells (hB m) 26 (0, 0))), (nb ρ2 2, (.cells (cU x) 24 (0, 0))), (nb ρ3 5, (.cells (cU p) 24 (0, 0))), (nb ρ4 6, (.cells (cU e ++ cU s) 36 (0, 0))), (nb ρ8 1, (.cells (cU e ++ cU r) 36 (0, 0)))] F
    (fun _ => [(4, (pt (nb ρ1 1))), (6, (.bool true)), (8, (pt (nb ρ3 5))), (10, (pt (nb ρ4 6))), (12, (pt (nb ρ8 1)))])
    (fun _ => [(nb ρ1 0, (.cells (hB h) 26 (0, 0))), (nb ρ1 1, (.cells (hB m) 26 (0, 0))), (nb ρ2 2, (.cells (cU x) 24 (0, 0))), (nb ρ3 5, (.cells (cU p) 24 (0, 0))), (nb ρ4 6, (.cells (cU e ++ cU s) 36 (0, 0))), (nb ρ8 1, (.cells (cU e ++ cU r) 36 (0, 0)))]) := by
  refine reg_seq [0] [4, 6, 8, 10, 12] 1
    (fun _ ι => ([(.bool true)] : List Value).getD ι undef)
    (fun _ ι => ([{}] : List Eff).getD ι {})
    (by kernel_rfl) (by kernel_rfl) (fun _ => by kernel_rfl) (fun _ => by kernel_rfl) ⟨trivial, ?_⟩
  · exact o_run 0 [] [] (fun _ _ => []) (fun _ _ => by kernel_rfl)
theorem signRightw_any_r13 (h : Nat) (m : Nat) (x : Nat) (p : Nat) (e : Nat) (s : Nat) (r : Nat) (hm : m < M) (hp : p < M) (he : e < M) (hs : s < M) (hr : r < M) (hb2 : (decide (r = s)) = false) (ρ1 : Nat → Orc) (ρ2 : Nat → Orc) (ρ3 : Nat → Orc) (ρ4 : Nat → Orc) (ρ8 : Nat → Orc) (w0 : World) : RegF Tryd.prog 12 (regOps Tryd.f6 12) false 89 [(4, (pt (nb ρ1 1))), (6, (.bool false)), (8, (pt (nb ρ3 5))), (10, (pt (nb ρ4 6))), (12, (pt (nb ρ8 1))), (56, (.bool false))] w0 [(nb ρ1 0, (.cells (hB h) 26 (0, 0))), (nb ρ1 1, (.cells (hB m) 26 (0, 0))), (nb ρ2 2, (.cells (cU x) 24 (0, 0))), (nb ρ3 5, (.cells (cU p) 24 (0, 0))), (nb ρ4 6, (.cells (cU e ++ cU s) 36 (0, 0))), (nb ρ8 1, (.cells (cU e ++ cU r) 36 (0, 0)))] (fun w => Kb w 1 (rowK .u32 64 kN) ∧ Kb w 0 #[(.int .u32 1779033703), (.int .u32 3144134277), (.int .u32 1013904242), (.int .u32 2773480762), (.int .u32 1359893119), (.int .u32 2600822924), (.int .u32 528734635), (.int .u32 1541459225)] ∧ True)
    (fun _ => [(4, (pt (nb ρ1 1))), (6, (.bool false)), (8, (pt (nb ρ3 5))), (10, (pt (nb ρ4 6))), (12, (pt (nb ρ8 1))), (68, (.bool (!(verB p m e r))))])
    (fun _ => [(nb ρ1 0, (.cells (hB h) 26 (0, 0))), (nb ρ1 1, (.cells (hB m) 26 (0, 0))), (nb ρ2 2, (.cells (cU x) 24 (0, 0))), (nb ρ3 5, (.cells (cU p) 24 (0, 0))), (nb ρ4 6, (.cells (cU e ++ cU s) 36 (0, 0))), (nb ρ8 1, (.cells (cU e ++ cU r) 36 (0, 0)))]) (fun _ => (fun w => Kb w 1 (rowK .u32 64 kN) ∧ Kb w 0 #[(.int .u32 1779033703), (.int .u32 3144134277), (.int .u32 1013904242), (.int .u32 2773480762), (.int .u32 1359893119), (.int .u32 2600822924), (.int .u32 528734635), (.int .u32 1541459225)] ∧ True)) := by
  refine reg_seq_f [0, 1, 3, 7, 15, 31, 63, 127, 255, 511, 1023, 2047] [4, 6, 8, 10, 12, 68] 12
    (fun _ ι => ([(.pointer (some ⟨nb ρ8 1, 4, none⟩)), (U r), (.pointer (some ⟨nb ρ4 6, 4, none⟩)), (U s), (.bool false), (.bool false), (U p), (.agg (hB m)), (.agg (cU e ++ cU r)), (.bool (verB p m e r)), (.bool (!(verB p m e r))), (.bool (!(verB p m e r)))] : List Value).getD ι undef)
    (fun _ ι => ([{}, {}, {}, {}, {}, {}, {}, {}, {}, {}, {}, {}] : List Eff).getD ι {})
    (fun _ ι => ([(fun _ => True), (fun _ => True), (fun _ => True), (fun _ => True), (fun _ => True), (fun _ => True), (fun _ => True), (fun _ => True), (fun _ => True), (fun _ => True), (fun _ => True), (fun _ => True)] : List (World → Prop)).getD ι (fun _ => True))
    (by kernel_rfl) (by kernel_rfl) (fun _ => by kernel_rfl) (fun _ => by kernel_rfl) (fun _ _ hF _ => ⟨hF.1, hF.2.1, trivial⟩) ⟨⟨⟨⟨⟨⟨⟨⟨⟨⟨⟨⟨trivial, ?_⟩, ?_⟩, ?_⟩, ?_⟩, ?_⟩, ?_⟩, ?_⟩, ?_⟩, ?_⟩, ?_⟩, ?_⟩, ?_⟩
  · exact Obl.brings (o_run 0 [] [] (fun _ _ => []) (fun _ _ => by kernel_rfl)) (fun _ _ => trivial)
  · exact Obl.brings (o_run 1 [5] [] (fun _ _ => [nb ρ8 1, nb ρ8 1, nb ρ8 1, nb ρ8 1]) (fun _ _ => by kernel_rfl)) (fun _ _ => trivial)
  · exact Obl.brings (o_run 2 [] [] (fun _ _ => []) (fun _ _ => by kernel_rfl)) (fun _ _ => trivial)
  · exact Obl.brings (o_run 3 [4] [] (fun _ _ => [nb ρ4 6, nb ρ4 6, nb ρ4 6, nb ρ4 6]) (fun _ _ => by kernel_rfl)) (fun _ _ => trivial)
  · exact Obl.brings (o_bin 4 .eql 24 (fun _ => (U r)) (fun _ => (U s)) (fun _ => (.bool false)) (fun _ => by kernel_rfl) (fun _ _ _ _ => by kernel_rfl) (fun _ _ => (eqlU r s hr hs _).trans (by rw [hb2]; try rfl))) (fun _ _ => trivial)
  · exact Obl.brings (o_run 5 [] [] (fun _ _ => []) (fun _ _ => by kernel_rfl)) (fun _ _ => trivial)
  · exact Obl.brings (o_run 6 [3] [] (fun _ _ => [nb ρ3 5, nb ρ3 5, nb ρ3 5, nb ρ3 5]) (fun _ _ => by kernel_rfl)) (fun _ _ => trivial)
  · exact Obl.brings (o_run 7 [1] [] (fun _ _ => [nb ρ1 1, nb ρ1 1, nb ρ1 1, nb ρ1 1, nb ρ1 1, nb ρ1 1, nb ρ1 1, nb ρ1 1, nb ρ1 1, nb ρ1 1, nb ρ1 1, nb ρ1 1, nb ρ1 1, nb ρ1 1, nb ρ1 1, nb ρ1 1, nb ρ1 1, nb ρ1 1, nb ρ1 1, nb ρ1 1, nb ρ1 1, nb ρ1 1, nb ρ1 1, nb ρ1 1, nb ρ1 1, nb ρ1 1, nb ρ1 1, nb ρ1 1, nb ρ1 1, nb ρ1 1, nb ρ1 1, nb ρ1 1]) (fun _ _ => by kernel_rfl)) (fun _ _ => trivial)
  · exact Obl.brings (o_run 8 [5] [] (fun _ _ => [nb ρ8 1, nb ρ8 1, nb ρ8 1, nb ρ8 1, nb ρ8 1, nb ρ8 1, nb ρ8 1, nb ρ8 1]) (fun _ _ => by kernel_rfl)) (fun _ _ => trivial)
  · exact o_callP 9 21 (fun _ => #[(U p), (.agg (hB m)), (.agg (cU e ++ cU r))]) (fun _ => (.bool (verB p m e r))) (fun _ _ => (by kernel_rfl)) (fun _ => (by kernel_rfl)) (fun _ _ => (by kernel_rfl)) (fun _ _ => trivial) (fun _ _ w hG => verify_any p m e r hp hm he hr w hG.facts0.now.1 hG.facts0.now.2.1)
  · exact Obl.brings (o_run 10 [] [] (fun _ _ => []) (fun _ _ => by kernel_rfl)) (fun _ _ => trivial)
  · exact Obl.brings (o_run 11 [] [] (fun _ _ => []) (fun _ _ => by kernel_rfl)) (fun _ _ => trivial)
theorem signRightw_any_r14 (h : Nat) (m : Nat) (x : Nat) (p : Nat) (e : Nat) (s : Nat) (r : Nat) (ρ1 : Nat → Orc) (ρ2 : Nat → Orc) (ρ3 : Nat → Orc) (ρ4 : Nat → Orc) (ρ8 : Nat → Orc) (w0 : World) (F : World → Prop) : Reg Tryd.prog 13 (regOps Tryd.f6 13) false 89 [(4, (pt (nb ρ1 1))), (6, (.bool false)), (8, (pt (nb ρ3 5))), (10, (pt (nb ρ4 6))), (12, (pt (nb ρ8 1))), (68, (.bool true))] w0 [(nb ρ1 0, (.cells (hB h) 26 (0, 0))), (nb ρ1 1, (.cells (hB m) 26 (0, 0))), (nb ρ2 2, (.cells (cU x) 24 (0, 0))), (nb ρ3 5, (.cells (cU p) 24 (0, 0))), (nb ρ4 6, (.cells (cU e ++ cU s) 36 (0, 0))), (nb ρ8 1, (.cells (cU e ++ cU r) 36 (0, 0)))] F
    (fun _ => [(4, (pt (nb ρ1 1))), (6, (.bool true)), (8, (pt (nb ρ3 5))), (10, (pt (nb ρ4 6))), (12, (pt (nb ρ8 1)))])
    (fun _ => [(nb ρ1 0, (.cells (hB h) 26 (0, 0))), (nb ρ1 1, (.cells (hB m) 26 (0, 0))), (nb ρ2 2, (.cells (cU x) 24 (0, 0))), (nb ρ3 5, (.cells (cU p) 24 (0, 0))), (nb ρ4 6, (.cells (cU e ++ cU s) 36 (0, 0))), (nb ρ8 1, (.cells (cU e ++ cU r) 36 (0, 0)))]) := by
  refine reg_seq [0] [4, 6, 8, 10, 12] 1
    (fun _ ι => ([(.bool true)] : List Value).getD ι undef)
    (fun _ ι => ([{}] : List Eff).getD ι {})
    (by kernel_rfl) (by kernel_rfl) (fun _ => by kernel_rfl) (fun _ => by kernel_rfl) ⟨trivial, ?_⟩
  · exact o_run 0 [] [] (fun _ _ => []) (fun _ _ => by kernel_rfl)
theorem signRightw_any_r15 (h : Nat) (m : Nat) (x : Nat) (p : Nat) (e : Nat) (s : Nat) (r : Nat) (a : Nat) (b : Nat) (hp : p < M) (he : e < M) (hs : s < M) (hr : r < M) (ea : mulmN (expmN 4 s pP) (expmN p (submN 0 e qP) pP) pP = a) (eb : mulmN (expmN 4 r pP) (expmN p (submN 0 e qP) pP) pP = b) (ρ1 : Nat → Orc) (ρ2 : Nat → Orc) (ρ3 : Nat → Orc) (ρ4 : Nat → Orc) (ρ8 : Nat → Orc) (w0 : World) : RegF Tryd.prog 14 (regOps Tryd.f6 14) true 89 [(4, (pt (nb ρ1 1))), (6, (.bool false)), (8, (pt (nb ρ3 5))), (10, (pt (nb ρ4 6))), (12, (pt (nb ρ8 1))), (68, (.bool false))] w0 [(nb ρ1 0, (.cells (hB h) 26 (0, 0))), (nb ρ1 1, (.cells (hB m) 26 (0, 0))), (nb ρ2 2, (.cells (cU x) 24 (0, 0))), (nb ρ3 5, (.cells (cU p) 24 (0, 0))), (nb ρ4 6, (.cells (cU e ++ cU s) 36 (0, 0))), (nb ρ8 1, (.cells (cU e ++ cU r) 36 (0, 0)))] (fun w => Kb w 1 (rowK .u32 64 kN) ∧ Kb w 0 #[(.int .u32 1779033703), (.int .u32 3144134277), (.int .u32 1013904242), (.int .u32 2773480762), (.int .u32 1359893119), (.int .u32 2600822924), (.int .u32 528734635), (.int .u32 1541459225)] ∧ True)
    (fun ρ => [(4, (pt (nb ρ1 1))), (6, (.bool false)), (8, (pt (nb ρ3 5))), (13, (pt (nb ρ 6))), (14, (pt (nb ρ 7)))])
    (fun ρ => [(nb ρ1 0, (.cells (hB h) 26 (0, 0))), (nb ρ1 1, (.cells (hB m) 26 (0, 0))), (nb ρ2 2, (.cells (cU x) 24 (0, 0))), (nb ρ3 5, (.cells (cU p) 24 (0, 0))), (nb ρ4 6, (.cells (cU e ++ cU s) 36 (0, 0))), (nb ρ8 1, (.cells (cU e ++ cU r) 36 (0, 0))), (nb ρ 6, (.cells (cU a) 24 (0, 0))), (nb ρ 7, (.cells (cU b) 24 (0, 0)))]) (fun _ => (fun w => Kb w 1 (rowK .u32 64 kN) ∧ Kb w 0 #[(.int .u32 1779033703), (.int .u32 3144134277), (.int .u32 1013904242), (.int .u32 2773480762), (.int .u32 1359893119), (.int .u32 2600822924), (.int .u32 528734635), (.int .u32 1541459225)] ∧ True)) := by
  refine reg_drawn_f [0, 0, 3, 0, 0, 31, 0, 0, 255, 511] [4, 6, 8, 13, 14] 10
    (fun ρ ι => ([(U p), (.agg (cU e ++ cU s)), (U a), (U p), (.agg (cU e ++ cU r)), (U b), (pt (nb ρ 6)), (pt (nb ρ 7)), undef, undef] : List Value).getD ι undef)
    (fun ρ ι => ([{}, {}, {}, {}, {}, {}, { news := [(nb ρ 6, (.cells (cU 0) 24 (0, 0)))] }, { news := [(nb ρ 7, (.cells (cU 0) 24 (0, 0)))] }, { puts := [(54, (.cells (cU a) 24 (0, 0)))] }, { puts := [(62, (.cells (cU b) 24 (0, 0)))] }] : List Eff).getD ι {})
    (fun _ ι => ([(fun _ => True), (fun _ => True), (fun _ => True), (fun _ => True), (fun _ => True), (fun _ => True), (fun _ => True), (fun _ => True), (fun _ => True), (fun _ => True)] : List (World → Prop)).getD ι (fun _ => True))
    (by kernel_rfl) (by kernel_rfl) (by kernel_rfl) (fun _ => by kernel_rfl) (fun _ => by kernel_rfl) (fun _ _ hF _ => ⟨hF.1, hF.2.1, trivial⟩) ⟨⟨⟨⟨⟨⟨⟨⟨⟨⟨trivial, ?_⟩, ?_⟩, ?_⟩, ?_⟩, ?_⟩, ?_⟩, ?_⟩, ?_⟩, ?_⟩, ?_⟩
  · exact Obl.brings (o_run 0 [3] [] (fun _ _ => [nb ρ3 5, nb ρ3 5, nb ρ3 5, nb ρ3 5]) (fun _ _ => by kernel_rfl)) (fun _ _ => trivial)
  · exact Obl.brings (o_run 1 [4] [] (fun _ _ => [nb ρ4 6, nb ρ4 6, nb ρ4 6, nb ρ4 6, nb ρ4 6, nb ρ4 6, nb ρ4 6, nb ρ4 6]) (fun _ _ => by kernel_rfl)) (fun _ _ => trivial)
  · exact o_callP 2 25 (fun _ => #[(U p), (.agg (cU e ++ cU s))]) (fun _ => (U a)) (fun _ _ => (by kernel_rfl)) (fun _ => (by kernel_rfl)) (fun _ _ => (by kernel_rfl)) (fun _ _ => trivial) (fun _ _ w _ => (by as_aux_lemma => (have hcall := (fun w => commit_any p e s hp he hs w) w ; rw [ea] at hcall; exact hcall)))
  · exact Obl.brings (o_run 3 [3] [] (fun _ _ => [nb ρ3 5, nb ρ3 5, nb ρ3 5, nb ρ3 5]) (fun _ _ => by kernel_rfl)) (fun _ _ => trivial)
  · exact Obl.brings (o_run 4 [5] [] (fun _ _ => [nb ρ8 1, nb ρ8 1, nb ρ8 1, nb ρ8 1, nb ρ8 1, nb ρ8 1, nb ρ8 1, nb ρ8 1]) (fun _ _ => by kernel_rfl)) (fun _ _ => trivial)
  · exact o_callP 5 25 (fun _ => #[(U p), (.agg (cU e ++ cU r))]) (fun _ => (U b)) (fun _ _ => (by kernel_rfl)) (fun _ => (by kernel_rfl)) (fun _ _ => (by kernel_rfl)) (fun _ _ => trivial) (fun _ _ w _ => (by as_aux_lemma => (have hcall := (fun w => commit_any p e r hp he hr w) w ; rw [eb] at hcall; exact hcall)))
  · exact Obl.brings (o_run 6 [] [] (fun _ _ => []) (fun _ _ => by kernel_rfl)) (fun _ _ => trivial)
  · exact Obl.brings (o_run 7 [] [] (fun _ _ => []) (fun _ _ => by kernel_rfl)) (fun _ _ => trivial)
  · exact Obl.brings (o_run 8 [54] [] (fun ρ _ => [nb ρ 6, nb ρ 6, nb ρ 6, nb ρ 6]) (fun _ _ => by kernel_rfl)) (fun _ _ => trivial)
  · exact Obl.brings (o_run 9 [62] [] (fun ρ _ => [nb ρ 7, nb ρ 7, nb ρ 7, nb ρ 7]) (fun _ _ => by kernel_rfl)) (fun _ _ => trivial)
theorem signRightw_any_r16 (h : Nat) (m : Nat) (x : Nat) (p : Nat) (e : Nat) (s : Nat) (r : Nat) (a : Nat) (b : Nat) (u : Nat) (v : Nat) (hm : m < M) (hp : p < M) (ha : a < M) (hb : b < M) (hu : u < M) (hv : v < M) (ep : pubV x = p) (ee : sigE x m = e) (es : sigS x m = s) (ea : mulmN (expmN 4 s pP) (expmN p (submN 0 e qP) pP) pP = a) (eb : mulmN (expmN 4 r pP) (expmN p (submN 0 e qP) pP) pP = b) (eu : chaN a p m = u) (ev : chaN b p m = v) (hb1 : ((pubE x) != 0) = false) (hb2 : (decide (r = s)) = false) (hb3 : (!(verB p m e r)) = false) (ρ1 : Nat → Orc) (ρ2 : Nat → Orc) (ρ3 : Nat → Orc) (ρ4 : Nat → Orc) (ρ8 : Nat → Orc) (ρ15 : Nat → Orc) (w0 : World) : RegF Tryd.prog 15 (regOps Tryd.f6 15) true 89 [(4, (pt (nb ρ1 1))), (6, (.bool false)), (8, (pt (nb ρ3 5))), (13, (pt (nb ρ15 6))), (14, (pt (nb ρ15 7)))] w0 [(nb ρ1 0, (.cells (hB h) 26 (0, 0))), (nb ρ1 1, (.cells (hB m) 26 (0, 0))), (nb ρ2 2, (.cells (cU x) 24 (0, 0))), (nb ρ3 5, (.cells (cU p) 24 (0, 0))), (nb ρ4 6, (.cells (cU e ++ cU s) 36 (0, 0))), (nb ρ8 1, (.cells (cU e ++ cU r) 36 (0, 0))), (nb ρ15 6, (.cells (cU a) 24 (0, 0))), (nb ρ15 7, (.cells (cU b) 24 (0, 0)))] (fun w => Kb w 1 (rowK .u32 64 kN) ∧ Kb w 0 #[(.int .u32 1779033703), (.int .u32 3144134277), (.int .u32 1013904242), (.int .u32 2773480762), (.int .u32 1359893119), (.int .u32 2600822924), (.int .u32 528734635), (.int .u32 1541459225)] ∧ True)
    (fun _ => [(6, (.bool true))])
    (fun _ => [(nb ρ1 0, (.cells (hB h) 26 (0, 0))), (nb ρ1 1, (.cells (hB m) 26 (0, 0))), (nb ρ2 2, (.cells (cU x) 24 (0, 0))), (nb ρ3 5, (.cells (cU p) 24 (0, 0))), (nb ρ4 6, (.cells (cU e ++ cU s) 36 (0, 0))), (nb ρ8 1, (.cells (cU e ++ cU r) 36 (0, 0))), (nb ρ15 6, (.cells (cU a) 24 (0, 0))), (nb ρ15 7, (.cells (cU b) 24 (0, 0)))]) (fun _ => (fun w => Kb w 1 (rowK .u32 64 kN) ∧ Kb w 0 #[(.int .u32 1779033703), (.int .u32 3144134277), (.int .u32 1013904242), (.int .u32 2773480762), (.int .u32 1359893119), (.int .u32 2600822924), (.int .u32 528734635), (.int .u32 1541459225)] ∧ True)) := by
  refine reg_drawn_f [0, 0, 3, 7, 15, 15, 15, 127, 15, 15, 15, 2047, 4095, 8191, 16383] [6] 15
    (fun _ ι => ([(U a), (U b), (.bool true), (.bool true), (U a), (U p), (.agg (hB m)), (U u), (U b), (U p), (.agg (hB m)), (U v), (.bool true), (.bool true), (.bool true)] : List Value).getD ι undef)
    (fun _ ι => ([{}, {}, {}, {}, {}, {}, {}, {}, {}, {}, {}, {}, {}, {}, {}] : List Eff).getD ι {})
    (fun _ ι => ([(fun _ => True), (fun _ => True), (fun _ => True), (fun _ => True), (fun _ => True), (fun _ => True), (fun _ => True), (fun _ => True), (fun _ => True), (fun _ => True), (fun _ => True), (fun _ => True), (fun _ => True), (fun _ => True), (fun _ => True)] : List (World → Prop)).getD ι (fun _ => True))
    (by kernel_rfl) (by kernel_rfl) (by kernel_rfl) (fun _ => by kernel_rfl) (fun _ => by kernel_rfl) (fun _ _ hF _ => ⟨hF.1, hF.2.1, trivial⟩) ⟨⟨⟨⟨⟨⟨⟨⟨⟨⟨⟨⟨⟨⟨⟨trivial, ?_⟩, ?_⟩, ?_⟩, ?_⟩, ?_⟩, ?_⟩, ?_⟩, ?_⟩, ?_⟩, ?_⟩, ?_⟩, ?_⟩, ?_⟩, ?_⟩, ?_⟩
  · exact Obl.brings (o_run 0 [6] [] (fun _ _ => [nb ρ15 6, nb ρ15 6, nb ρ15 6, nb ρ15 6]) (fun _ _ => by kernel_rfl)) (fun _ _ => trivial)
  · exact Obl.brings (o_run 1 [7] [] (fun _ _ => [nb ρ15 7, nb ρ15 7, nb ρ15 7, nb ρ15 7]) (fun _ _ => by kernel_rfl)) (fun _ _ => trivial)
  · exact Obl.brings (o_bin 2 .neq 24 (fun _ => (U a)) (fun _ => (U b)) (fun _ => (.bool true)) (fun _ => by kernel_rfl) (fun _ _ _ _ => by kernel_rfl) (fun _ _ => (neqU a b ha hb _).trans (by rw [(show decide (a = b) = false by rw [← ea, ← eb]; exact two_no (show p = expmN 4 x pP by rw [← ep, (pub_yes (pubE_ok hb1)).1]) (show verB p m e s = true by rw [← ep, ← ee, ← es]; exact right (pubE_ok hb1)) (not_f hb3) hb2)]; try rfl))) (fun _ _ => trivial)
  · exact Obl.brings (o_run 3 [] [] (fun _ _ => []) (fun _ _ => by kernel_rfl)) (fun _ _ => trivial)
  · exact Obl.brings (o_run 4 [6] [] (fun _ _ => [nb ρ15 6, nb ρ15 6, nb ρ15 6, nb ρ15 6]) (fun _ _ => by kernel_rfl)) (fun _ _ => trivial)
  · exact Obl.brings (o_run 5 [3] [] (fun _ _ => [nb ρ3 5, nb ρ3 5, nb ρ3 5, nb ρ3 5]) (fun _ _ => by kernel_rfl)) (fun _ _ => trivial)
  · exact Obl.brings (o_run 6 [1] [] (fun _ _ => [nb ρ1 1, nb ρ1 1, nb ρ1 1, nb ρ1 1, nb ρ1 1, nb ρ1 1, nb ρ1 1, nb ρ1 1, nb ρ1 1, nb ρ1 1, nb ρ1 1, nb ρ1 1, nb ρ1 1, nb ρ1 1, nb ρ1 1, nb ρ1 1, nb ρ1 1, nb ρ1 1, nb ρ1 1, nb ρ1 1, nb ρ1 1, nb ρ1 1, nb ρ1 1, nb ρ1 1, nb ρ1 1, nb ρ1 1, nb ρ1 1, nb ρ1 1, nb ρ1 1, nb ρ1 1, nb ρ1 1, nb ρ1 1]) (fun _ _ => by kernel_rfl)) (fun _ _ => trivial)
  · exact o_callP 7 17 (fun _ => #[(U a), (U p), (.agg (hB m))]) (fun _ => (U u)) (fun _ _ => (by kernel_rfl)) (fun _ => (by kernel_rfl)) (fun _ _ => (by kernel_rfl)) (fun _ _ => trivial) (fun _ _ w hG => (by as_aux_lemma => (have hcall := challenge_any a p m ha hp hm w hG.facts0.now.1 hG.facts0.now.2.1; rw [eu] at hcall; exact hcall)))
  · exact Obl.brings (o_run 8 [7] [] (fun _ _ => [nb ρ15 7, nb ρ15 7, nb ρ15 7, nb ρ15 7]) (fun _ _ => by kernel_rfl)) (fun _ _ => trivial)
  · exact Obl.brings (o_run 9 [3] [] (fun _ _ => [nb ρ3 5, nb ρ3 5, nb ρ3 5, nb ρ3 5]) (fun _ _ => by kernel_rfl)) (fun _ _ => trivial)
  · exact Obl.brings (o_run 10 [1] [] (fun _ _ => [nb ρ1 1, nb ρ1 1, nb ρ1 1, nb ρ1 1, nb ρ1 1, nb ρ1 1, nb ρ1 1, nb ρ1 1, nb ρ1 1, nb ρ1 1, nb ρ1 1, nb ρ1 1, nb ρ1 1, nb ρ1 1, nb ρ1 1, nb ρ1 1, nb ρ1 1, nb ρ1 1, nb ρ1 1, nb ρ1 1, nb ρ1 1, nb ρ1 1, nb ρ1 1, nb ρ1 1, nb ρ1 1, nb ρ1 1, nb ρ1 1, nb ρ1 1, nb ρ1 1, nb ρ1 1, nb ρ1 1, nb ρ1 1]) (fun _ _ => by kernel_rfl)) (fun _ _ => trivial)
  · exact o_callP 11 17 (fun _ => #[(U b), (U p), (.agg (hB m))]) (fun _ => (U v)) (fun _ _ => (by kernel_rfl)) (fun _ => (by kernel_rfl)) (fun _ _ => (by kernel_rfl)) (fun _ _ => trivial) (fun _ _ w hG => (by as_aux_lemma => (have hcall := challenge_any b p m hb hp hm w hG.facts0.now.1 hG.facts0.now.2.1; rw [ev] at hcall; exact hcall)))
  · exact Obl.brings (o_bin 12 .eql 24 (fun _ => (U u)) (fun _ => (U v)) (fun _ => (.bool true)) (fun _ => by kernel_rfl) (fun _ _ _ _ => by kernel_rfl) (fun _ _ => (eqlU u v hu hv _).trans (by rw [(show decide (u = v) = true by rw [← eu, ← ev, ← ea, ← eb]; exact two_same (show p = expmN 4 x pP by rw [← ep, (pub_yes (pubE_ok hb1)).1]) (show verB p m e s = true by rw [← ep, ← ee, ← es]; exact right (pubE_ok hb1)) (not_f hb3))]; try rfl))) (fun _ _ => trivial)
  · exact Obl.brings (o_run 13 [] [] (fun _ _ => []) (fun _ _ => by kernel_rfl)) (fun _ _ => trivial)
  · exact Obl.brings (o_run 14 [] [] (fun _ _ => []) (fun _ _ => by kernel_rfl)) (fun _ _ => trivial)
theorem signRightw_any (h : Nat) (m : Nat) (n : Nat) (x : Nat) (p : Nat) (e : Nat) (s : Nat) (r : Nat) (a : Nat) (b : Nat) (u : Nat) (v : Nat) (hh : h < M) (hm : m < M) (hn : n < 18446744073709551616) (hx : x < M) (hp : p < M) (he : e < M) (hs : s < M) (hr : r < M) (ha : a < M) (hb : b < M) (hu : u < M) (hv : v < M) (ex : addmN h 0 qP = x) (ep : pubV x = p) (ee : sigE x m = e) (es : sigS x m = s) (er : addmN s (((n : Nat) : Int).toNat) qP = r) (ea : mulmN (expmN 4 s pP) (expmN p (submN 0 e qP) pP) pP = a) (eb : mulmN (expmN 4 r pP) (expmN p (submN 0 e qP) pP) pP = b) (eu : chaN a p m = u) (ev : chaN b p m = v) (w0 : World) (hf0 : Kb w0 1 (rowK .u32 64 kN)) (hf1 : Kb w0 0 #[(.int .u32 1779033703), (.int .u32 3144134277), (.int .u32 1013904242), (.int .u32 2773480762), (.int .u32 1359893119), (.int .u32 2600822924), (.int .u32 528734635), (.int .u32 1541459225)]) : Calls Tryd.prog 6 #[(.agg (hB h)), (.agg (hB m)), (.int .u64 ((n : Nat) : Int))] w0 (fun ε w' => ε = .returned (.bool true) ∧ Below w0.heap.size w0 w') := by
  refine Calls.of_ok (n := 89) (F := (fun w => Kb w 1 (rowK .u32 64 kN) ∧ Kb w 0 #[(.int .u32 1779033703), (.int .u32 3144134277), (.int .u32 1013904242), (.int .u32 2773480762), (.int .u32 1359893119), (.int .u32 2600822924), (.int .u32 528734635), (.int .u32 1541459225)] ∧ True)) Tryd.func6 rfl rfl rfl (by simp) (hf0.pers0.and (hf1.pers0.and persT)) ?_
  refine ok_seq_r (by kernel_rfl) (signRightw_any_r1 h m n _ _) (fun ρ1 => ?_)
  refine ok_seq_rf (by kernel_rfl) (signRightw_any_r2 h m n x hh ex ρ1 _) (fun ρ2 => ?_)
  refine ok_seq_rf (by kernel_rfl) (signRightw_any_r3 h m n x p hx ep ρ1 ρ2 _) (fun ρ3 => ?_)
  refine ok_seq_rf (by kernel_rfl) (signRightw_any_r4 h m n x p e s hm hx ee es ρ1 ρ2 ρ3 _) (fun ρ4 => ?_)
  refine ok_seq ?_
  refine ok_seq_rf (by kernel_rfl) (signRightw_any_r5 h m n x p e s ρ1 ρ2 ρ3 ρ4 _) (fun _ => ?_)
  refine ok_no (by kernel_rfl) ?_
  refine ok_skip ?_
  refine mt_then ?_
  refine ok_seq ?_
  refine ok_seq_r (by kernel_rfl) (signRightw_any_r6 h m n x p e s ρ1 ρ2 ρ3 ρ4 _ _) (fun _ => ?_)
  refine ok_cond (b := (pubE x) != 0) (by kernel_rfl) (fun hb1 => ?_) (fun hb1 => ?_)
  ·
    rw [hb1]
    refine ok_seq_r (by kernel_rfl) (signRightw_any_r7 h m n x p e s hx ex hb1 ρ1 ρ2 ρ3 ρ4 _ _) (fun _ => ?_)
    refine ok_ret ?_
    refine mt_then_r ?_
    exact meets_ret (v := (.bool true)) [] (dup []) (by kernel_rfl) (by kernel_rfl) (eqs_dup _) (fun _ hS => ⟨rfl, hS.below⟩)
  ·
    rw [hb1]
    refine ok_skip ?_
    refine mt_then ?_
    refine ok_seq_r (by kernel_rfl) (signRightw_any_r8 h m n x p e s ρ1 ρ2 ρ3 ρ4 _ _) (fun ρ8 => ?_)
    refine ok_seq_rf (by kernel_rfl) (signRightw_any_r9 h m n x p e s r hn hs er ρ1 ρ2 ρ3 ρ4 ρ8 _) (fun _ => ?_)
    refine ok_seq ?_
    refine ok_seq_rf (by kernel_rfl) (signRightw_any_r10 h m x p e s r hm hp he hs ep ee es hb1 ρ1 ρ2 ρ3 ρ4 ρ8 _) (fun _ => ?_)
    refine ok_no (by kernel_rfl) ?_
    refine ok_skip ?_
    refine mt_then ?_
    refine ok_seq ?_
    rcases Bool.eq_false_or_eq_true (decide (r = s)) with hb2 | hb2
    ·
      refine ok_seq_r (by kernel_rfl) (signRightw_any_r11 h m x p e s r hs hr hb2 ρ1 ρ2 ρ3 ρ4 ρ8 _ _) (fun _ => ?_)
      refine ok_yes (by kernel_rfl) ?_
      refine ok_seq_r (by kernel_rfl) (signRightw_any_r12 h m x p e s r ρ1 ρ2 ρ3 ρ4 ρ8 _ _) (fun _ => ?_)
      refine ok_ret ?_
      refine mt_then_r ?_
      exact meets_ret (v := (.bool true)) [] (dup []) (by kernel_rfl) (by kernel_rfl) (eqs_dup _) (fun _ hS => ⟨rfl, hS.below⟩)
    ·
      refine ok_seq_rf (by kernel_rfl) (signRightw_any_r13 h m x p e s r hm hp he hs hr hb2 ρ1 ρ2 ρ3 ρ4 ρ8 _) (fun _ => ?_)
      refine ok_cond (b := !(verB p m e r)) (by kernel_rfl) (fun hb3 => ?_) (fun hb3 => ?_)
      ·
        rw [hb3]
        refine ok_seq_r (by kernel_rfl) (signRightw_any_r14 h m x p e s r ρ1 ρ2 ρ3 ρ4 ρ8 _ _) (fun _ => ?_)
        refine ok_ret ?_
        refine mt_then_r ?_
        exact meets_ret (v := (.bool true)) [] (dup []) (by kernel_rfl) (by kernel_rfl) (eqs_dup _) (fun _ hS => ⟨rfl, hS.below⟩)
      ·
        rw [hb3]
        refine ok_skip ?_
        refine mt_then ?_
        refine ok_seq_rf (by kernel_rfl) (signRightw_any_r15 h m x p e s r a b hp he hs hr ea eb ρ1 ρ2 ρ3 ρ4 ρ8 _) (fun ρ15 => ?_)
        refine ok_seq_rf (by kernel_rfl) (signRightw_any_r16 h m x p e s r a b u v hm hp ha hb hu hv ep ee es ea eb eu ev hb1 hb2 hb3 ρ1 ρ2 ρ3 ρ4 ρ8 ρ15 _) (fun _ => ?_)
        refine ok_ret ?_
        exact meets_ret (v := (.bool true)) [] (dup []) (by kernel_rfl) (by kernel_rfl) (eqs_dup _) (fun _ hS => ⟨rfl, hS.below⟩)
theorem signRight_any (h : Nat) (m : Nat) (n : Nat) (hh : h < M) (hm : m < M) (hn : n < 18446744073709551616) (w0 : World) (hf0 : Kb w0 1 (rowK .u32 64 kN)) (hf1 : Kb w0 0 #[(.int .u32 1779033703), (.int .u32 3144134277), (.int .u32 1013904242), (.int .u32 2773480762), (.int .u32 1359893119), (.int .u32 2600822924), (.int .u32 528734635), (.int .u32 1541459225)]) : Calls Tryd.prog 6 #[(.agg (hB h)), (.agg (hB m)), (.int .u64 ((n : Nat) : Int))] w0 (fun ε w' => ε = .returned (.bool true) ∧ Below w0.heap.size w0 w') := signRightw_any h m n (addmN h 0 qP) (pubV (addmN h 0 qP)) (sigE (addmN h 0 qP) m) (sigS (addmN h 0 qP) m) (addmN (sigS (addmN h 0 qP) m) (((n : Nat) : Int).toNat) qP) (mulmN (expmN 4 (sigS (addmN h 0 qP) m) pP) (expmN (pubV (addmN h 0 qP)) (submN 0 (sigE (addmN h 0 qP) m) qP) pP) pP) (mulmN (expmN 4 (addmN (sigS (addmN h 0 qP) m) (((n : Nat) : Int).toNat) qP) pP) (expmN (pubV (addmN h 0 qP)) (submN 0 (sigE (addmN h 0 qP) m) qP) pP) pP) (chaN (mulmN (expmN 4 (sigS (addmN h 0 qP) m) pP) (expmN (pubV (addmN h 0 qP)) (submN 0 (sigE (addmN h 0 qP) m) qP) pP) pP) (pubV (addmN h 0 qP)) m) (chaN (mulmN (expmN 4 (addmN (sigS (addmN h 0 qP) m) (((n : Nat) : Int).toNat) qP) pP) (expmN (pubV (addmN h 0 qP)) (submN 0 (sigE (addmN h 0 qP) m) qP) pP) pP) (pubV (addmN h 0 qP)) m) hh hm hn (addmN_lt _ _ qP_lt) (pubV_lt _) (sigE_lt _ _) (sigS_lt _ _) (addmN_lt _ _ qP_lt) (mulmN_lt _ _ pP_lt) (mulmN_lt _ _ pP_lt) (chaN_lt _ _ _) (chaN_lt _ _ _) rfl rfl rfl rfl rfl rfl rfl rfl rfl w0 hf0 hf1
end Go.Proofs.YtoibhbmcplhiaaaDoor
