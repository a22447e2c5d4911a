/-
  The law SignTwice: the walk.
-/
import Derived.Test.YtoibhbmcplhiaaaDoorSSign
namespace Go.Proofs.YtoibhbmcplhiaaaDoor
open Go Go.RowKit
set_option maxRecDepth 100000
theorem signTwicew_any_r1 (h : Nat) (t : Nat) (m : Nat) (w0 : World) (F : World → Prop) : Reg Tryd.prog 0 (regOps Tryd.f9 0) false 64 [(0, (.agg (hB h))), (1, (.agg (hB t))), (2, (.agg (hB m)))] w0 [] F
    (fun ρ => [(3, (pt (nb ρ 0))), (4, (pt (nb ρ 1))), (5, (pt (nb ρ 2))), (6, (.bool false))])
    (fun ρ => [(nb ρ 0, (.cells (hB h) 26 (0, 0))), (nb ρ 1, (.cells (hB t) 26 (0, 0))), (nb ρ 2, (.cells (hB m) 26 (0, 0)))]) := by
  refine reg_seq [0, 1, 3, 7] [3, 4, 5, 6] 4
    (fun ρ ι => ([(pt (nb ρ 0)), (pt (nb ρ 1)), (pt (nb ρ 2)), (.bool false)] : List Value).getD ι undef)
    (fun ρ ι => ([{ news := [(nb ρ 0, (.cells (hB h) 26 (0, 0)))] }, { news := [(nb ρ 1, (.cells (hB t) 26 (0, 0)))] }, { news := [(nb ρ 2, (.cells (hB m) 26 (0, 0)))] }, {}] : List Eff).getD ι {})
    (by kernel_rfl) (by kernel_rfl) (fun _ => by kernel_rfl) (fun _ => by kernel_rfl) ⟨⟨⟨⟨trivial, ?_⟩, ?_⟩, ?_⟩, ?_⟩
  · exact o_run 0 [] [] (fun _ _ => []) (fun _ _ => by kernel_rfl)
  · exact o_run 1 [] [] (fun _ _ => []) (fun _ _ => by kernel_rfl)
  · exact o_run 2 [] [] (fun _ _ => []) (fun _ _ => by kernel_rfl)
  · exact o_run 3 [] [] (fun _ _ => []) (fun _ _ => by kernel_rfl)
theorem signTwicew_any_r2 (h : Nat) (t : Nat) (m : Nat) (x : Nat) (hh : h < M) (ex : addmN h 0 qP = x) (ρ1 : Nat → Orc) (w0 : World) : RegF Tryd.prog 1 (regOps Tryd.f9 1) false 64 [(3, (pt (nb ρ1 0))), (4, (pt (nb ρ1 1))), (5, (pt (nb ρ1 2))), (6, (.bool false))] w0 [(nb ρ1 0, (.cells (hB h) 26 (0, 0))), (nb ρ1 1, (.cells (hB t) 26 (0, 0))), (nb ρ1 2, (.cells (hB m) 26 (0, 0)))] (fun w => Kb w 1 (rowK .u32 64 kN) ∧ Kb w 0 #[(.int .u32 1779033703), (.int .u32 3144134277), (.int .u32 1013904242), (.int .u32 2773480762), (.int .u32 1359893119), (.int .u32 2600822924), (.int .u32 528734635), (.int .u32 1541459225)] ∧ True)
    (fun ρ => [(4, (pt (nb ρ1 1))), (5, (pt (nb ρ1 2))), (6, (.bool false)), (7, (pt (nb ρ 2)))])
    (fun ρ => [(nb ρ1 0, (.cells (hB h) 26 (0, 0))), (nb ρ1 1, (.cells (hB t) 26 (0, 0))), (nb ρ1 2, (.cells (hB m) 26 (0, 0))), (nb ρ 2, (.cells (cU x) 24 (0, 0)))]) (fun _ => (fun w => Kb w 1 (rowK .u32 64 kN) ∧ Kb w 0 #[(.int .u32 1779033703), (.int .u32 3144134277), (.int .u32 1013904242), (.int .u32 2773480762), (.int .u32 1359893119), (.int .u32 2600822924), (.int .u32 528734635), (.int .u32 1541459225)] ∧ True)) := by
  refine reg_seq_f [0, 1, 3, 7] [4, 5, 6, 7] 4
    (fun ρ ι => ([(.agg (hB h)), (U x), (pt (nb ρ 2)), undef] : List Value).getD ι undef)
    (fun ρ ι => ([{}, {}, { news := [(nb ρ 2, (.cells (cU 0) 24 (0, 0)))] }, { puts := [(19, (.cells (cU x) 24 (0, 0)))] }] : List Eff).getD ι {})
    (fun _ ι => ([(fun _ => True), (fun _ => True), (fun _ => True), (fun _ => True)] : List (World → Prop)).getD ι (fun _ => True))
    (by kernel_rfl) (by kernel_rfl) (fun _ => by kernel_rfl) (fun _ => by kernel_rfl) (fun _ _ hF _ => ⟨hF.1, hF.2.1, trivial⟩) ⟨⟨⟨⟨trivial, ?_⟩, ?_⟩, ?_⟩, ?_⟩
  · exact Obl.brings (o_run 0 [0] [] (fun _ _ => [nb ρ1 0, nb ρ1 0, nb ρ1 0, nb ρ1 0, nb ρ1 0, nb ρ1 0, nb ρ1 0, nb ρ1 0, nb ρ1 0, nb ρ1 0, nb ρ1 0, nb ρ1 0, nb ρ1 0, nb ρ1 0, nb ρ1 0, nb ρ1 0, nb ρ1 0, nb ρ1 0, nb ρ1 0, nb ρ1 0, nb ρ1 0, nb ρ1 0, nb ρ1 0, nb ρ1 0, nb ρ1 0, nb ρ1 0, nb ρ1 0, nb ρ1 0, nb ρ1 0, nb ρ1 0, nb ρ1 0, nb ρ1 0]) (fun _ _ => by kernel_rfl)) (fun _ _ => trivial)
  · exact o_callP 1 23 (fun _ => #[(.agg (hB h))]) (fun _ => (U x)) (fun _ _ => (by kernel_rfl)) (fun _ => (by kernel_rfl)) (fun _ _ => (by kernel_rfl)) (fun _ _ => trivial) (fun _ _ w _ => (by as_aux_lemma => (have hcall := (fun w => rgscalar_any h w hh) w ; rw [ex] at hcall; exact hcall)))
  · exact Obl.brings (o_run 2 [] [] (fun _ _ => []) (fun _ _ => by kernel_rfl)) (fun _ _ => trivial)
  · exact Obl.brings (o_run 3 [19] [] (fun ρ _ => [nb ρ 2, nb ρ 2, nb ρ 2, nb ρ 2]) (fun _ _ => by kernel_rfl)) (fun _ _ => trivial)
theorem signTwicew_any_r3 (h : Nat) (t : Nat) (m : Nat) (x : Nat) (p : Nat) (hx : x < M) (ep : pubV x = p) (ρ1 : Nat → Orc) (ρ2 : Nat → Orc) (w0 : World) : RegF Tryd.prog 2 (regOps Tryd.f9 2) false 64 [(4, (pt (nb ρ1 1))), (5, (pt (nb ρ1 2))), (6, (.bool false)), (7, (pt (nb ρ2 2)))] w0 [(nb ρ1 0, (.cells (hB h) 26 (0, 0))), (nb ρ1 1, (.cells (hB t) 26 (0, 0))), (nb ρ1 2, (.cells (hB m) 26 (0, 0))), (nb ρ2 2, (.cells (cU x) 24 (0, 0)))] (fun w => Kb w 1 (rowK .u32 64 kN) ∧ Kb w 0 #[(.int .u32 1779033703), (.int .u32 3144134277), (.int .u32 1013904242), (.int .u32 2773480762), (.int .u32 1359893119), (.int .u32 2600822924), (.int .u32 528734635), (.int .u32 1541459225)] ∧ True)
    (fun ρ => [(4, (pt (nb ρ1 1))), (5, (pt (nb ρ1 2))), (6, (.bool false)), (7, (pt (nb ρ2 2))), (8, (pt (nb ρ 5))), (9, (.int .i64 (pubE x)))])
    (fun ρ => [(nb ρ1 0, (.cells (hB h) 26 (0, 0))), (nb ρ1 1, (.cells (hB t) 26 (0, 0))), (nb ρ1 2, (.cells (hB m) 26 (0, 0))), (nb ρ2 2, (.cells (cU x) 24 (0, 0))), (nb ρ 5, (.cells (cU p) 24 (0, 0)))]) (fun _ => (fun w => Kb w 1 (rowK .u32 64 kN) ∧ Kb w 0 #[(.int .u32 1779033703), (.int .u32 3144134277), (.int .u32 1013904242), (.int .u32 2773480762), (.int .u32 1359893119), (.int .u32 2600822924), (.int .u32 528734635), (.int .u32 1541459225)] ∧ True)) := by
  refine reg_seq_f [0, 1, 3, 7, 15, 31, 63, 127] [4, 5, 6, 7, 8, 9] 8
    (fun ρ ι => ([(U x), (.tuple #[(U p), (.int .i64 (pubE x))]), (.tuple #[(U p), (.int .i64 (pubE x))]), (U p), (.int .i64 (pubE x)), (pt (nb ρ 5)), undef, (.int .i64 (pubE x))] : List Value).getD ι undef)
    (fun ρ ι => ([{}, {}, {}, {}, {}, { news := [(nb ρ 5, (.cells (cU 0) 24 (0, 0)))] }, { puts := [(44, (.cells (cU p) 24 (0, 0)))] }, {}] : List Eff).getD ι {})
    (fun _ ι => ([(fun _ => True), (fun _ => True), (fun _ => True), (fun _ => True), (fun _ => True), (fun _ => True), (fun _ => True), (fun _ => True)] : List (World → Prop)).getD ι (fun _ => True))
    (by kernel_rfl) (by kernel_rfl) (fun _ => by kernel_rfl) (fun _ => by kernel_rfl) (fun _ _ hF _ => ⟨hF.1, hF.2.1, trivial⟩) ⟨⟨⟨⟨⟨⟨⟨⟨trivial, ?_⟩, ?_⟩, ?_⟩, ?_⟩, ?_⟩, ?_⟩, ?_⟩, ?_⟩
  · exact Obl.brings (o_run 0 [3] [] (fun _ _ => [nb ρ2 2, nb ρ2 2, nb ρ2 2, nb ρ2 2]) (fun _ _ => by kernel_rfl)) (fun _ _ => trivial)
  · exact o_callP 1 10 (fun _ => #[(U x)]) (fun _ => (.tuple #[(U p), (.int .i64 (pubE x))])) (fun _ _ => (by kernel_rfl)) (fun _ => (by kernel_rfl)) (fun _ _ => (by kernel_rfl)) (fun _ _ => trivial) (fun _ _ w _ => (by as_aux_lemma => (have hcall := (fun w => public_any x hx w) w ; rw [ep] at hcall; exact hcall)))
  · exact Obl.brings (o_run 2 [] [] (fun _ _ => []) (fun _ _ => by kernel_rfl)) (fun _ _ => trivial)
  · exact Obl.brings (o_run 3 [] [] (fun _ _ => []) (fun _ _ => by kernel_rfl)) (fun _ _ => trivial)
  · exact Obl.brings (o_run 4 [] [] (fun _ _ => []) (fun _ _ => by kernel_rfl)) (fun _ _ => trivial)
  · exact Obl.brings (o_run 5 [] [] (fun _ _ => []) (fun _ _ => by kernel_rfl)) (fun _ _ => trivial)
  · exact Obl.brings (o_run 6 [44] [] (fun ρ _ => [nb ρ 5, nb ρ 5, nb ρ 5, nb ρ 5]) (fun _ _ => by kernel_rfl)) (fun _ _ => trivial)
  · exact Obl.brings (o_run 7 [] [] (fun _ _ => []) (fun _ _ => by kernel_rfl)) (fun _ _ => trivial)
theorem signTwicew_any_r4 (h : Nat) (t : Nat) (m : Nat) (x : Nat) (p : Nat) (y : Nat) (ht : t < M) (hx : x < M) (ey : tsV x t = y) (ρ1 : Nat → Orc) (ρ2 : Nat → Orc) (ρ3 : Nat → Orc) (w0 : World) : RegF Tryd.prog 3 (regOps Tryd.f9 3) false 64 [(4, (pt (nb ρ1 1))), (5, (pt (nb ρ1 2))), (6, (.bool false)), (7, (pt (nb ρ2 2))), (8, (pt (nb ρ3 5))), (9, (.int .i64 (pubE x)))] w0 [(nb ρ1 0, (.cells (hB h) 26 (0, 0))), (nb ρ1 1, (.cells (hB t) 26 (0, 0))), (nb ρ1 2, (.cells (hB m) 26 (0, 0))), (nb ρ2 2, (.cells (cU x) 24 (0, 0))), (nb ρ3 5, (.cells (cU p) 24 (0, 0)))] (fun w => Kb w 1 (rowK .u32 64 kN) ∧ Kb w 0 #[(.int .u32 1779033703), (.int .u32 3144134277), (.int .u32 1013904242), (.int .u32 2773480762), (.int .u32 1359893119), (.int .u32 2600822924), (.int .u32 528734635), (.int .u32 1541459225)] ∧ True)
    (fun ρ => [(4, (pt (nb ρ1 1))), (5, (pt (nb ρ1 2))), (6, (.bool false)), (8, (pt (nb ρ3 5))), (9, (.int .i64 (pubE x))), (10, (pt (nb ρ 6))), (11, (.int .i64 (tsE x t)))])
    (fun ρ => [(nb ρ1 0, (.cells (hB h) 26 (0, 0))), (nb ρ1 1, (.cells (hB t) 26 (0, 0))), (nb ρ1 2, (.cells (hB m) 26 (0, 0))), (nb ρ2 2, (.cells (cU x) 24 (0, 0))), (nb ρ3 5, (.cells (cU p) 24 (0, 0))), (nb ρ 6, (.cells (cU y) 24 (0, 0)))]) (fun _ => (fun w => Kb w 1 (rowK .u32 64 kN) ∧ Kb w 0 #[(.int .u32 1779033703), (.int .u32 3144134277), (.int .u32 1013904242), (.int .u32 2773480762), (.int .u32 1359893119), (.int .u32 2600822924), (.int .u32 528734635), (.int .u32 1541459225)] ∧ True)) := by
  refine reg_seq_f [0, 1, 3, 7, 15, 31, 63, 127, 255] [4, 5, 6, 8, 9, 10, 11] 9
    (fun ρ ι => ([(U x), (.agg (hB t)), (.tuple #[(U y), (.int .i64 (tsE x t))]), (.tuple #[(U y), (.int .i64 (tsE x t))]), (U y), (.int .i64 (tsE x t)), (pt (nb ρ 6)), undef, (.int .i64 (tsE x t))] : List Value).getD ι undef)
    (fun ρ ι => ([{}, {}, {}, {}, {}, {}, { news := [(nb ρ 6, (.cells (cU 0) 24 (0, 0)))] }, { puts := [(53, (.cells (cU y) 24 (0, 0)))] }, {}] : List Eff).getD ι {})
    (fun _ ι => ([(fun _ => True), (fun _ => True), (fun _ => True), (fun _ => True), (fun _ => True), (fun _ => True), (fun _ => True), (fun _ => True), (fun _ => True)] : List (World → Prop)).getD ι (fun _ => True))
    (by kernel_rfl) (by kernel_rfl) (fun _ => by kernel_rfl) (fun _ => by kernel_rfl) (fun _ _ hF _ => ⟨hF.1, hF.2.1, trivial⟩) ⟨⟨⟨⟨⟨⟨⟨⟨⟨trivial, ?_⟩, ?_⟩, ?_⟩, ?_⟩, ?_⟩, ?_⟩, ?_⟩, ?_⟩, ?_⟩
  · exact Obl.brings (o_run 0 [3] [] (fun _ _ => [nb ρ2 2, nb ρ2 2, nb ρ2 2, nb ρ2 2]) (fun _ _ => by kernel_rfl)) (fun _ _ => trivial)
  · exact Obl.brings (o_run 1 [1] [] (fun _ _ => [nb ρ1 1, nb ρ1 1, nb ρ1 1, nb ρ1 1, nb ρ1 1, nb ρ1 1, nb ρ1 1, nb ρ1 1, nb ρ1 1, nb ρ1 1, nb ρ1 1, nb ρ1 1, nb ρ1 1, nb ρ1 1, nb ρ1 1, nb ρ1 1, nb ρ1 1, nb ρ1 1, nb ρ1 1, nb ρ1 1, nb ρ1 1, nb ρ1 1, nb ρ1 1, nb ρ1 1, nb ρ1 1, nb ρ1 1, nb ρ1 1, nb ρ1 1, nb ρ1 1, nb ρ1 1, nb ρ1 1, nb ρ1 1]) (fun _ _ => by kernel_rfl)) (fun _ _ => trivial)
  · exact o_callP 2 33 (fun _ => #[(U x), (.agg (hB t))]) (fun _ => (.tuple #[(U y), (.int .i64 (tsE x t))])) (fun _ _ => (by kernel_rfl)) (fun _ => (by kernel_rfl)) (fun _ _ => (by kernel_rfl)) (fun _ _ => trivial) (fun _ _ w _ => (by as_aux_lemma => (have hcall := (fun w => tweaksecret_any x t hx ht w) w ; rw [ey] at hcall; exact hcall)))
  · exact Obl.brings (o_run 3 [] [] (fun _ _ => []) (fun _ _ => by kernel_rfl)) (fun _ _ => trivial)
  · exact Obl.brings (o_run 4 [] [] (fun _ _ => []) (fun _ _ => by kernel_rfl)) (fun _ _ => trivial)
  · exact Obl.brings (o_run 5 [] [] (fun _ _ => []) (fun _ _ => by kernel_rfl)) (fun _ _ => trivial)
  · exact Obl.brings (o_run 6 [] [] (fun _ _ => []) (fun _ _ => by kernel_rfl)) (fun _ _ => trivial)
  · exact Obl.brings (o_run 7 [53] [] (fun ρ _ => [nb ρ 6, nb ρ 6, nb ρ 6, nb ρ 6]) (fun _ _ => by kernel_rfl)) (fun _ _ => trivial)
  · exact Obl.brings (o_run 8 [] [] (fun _ _ => []) (fun _ _ => by kernel_rfl)) (fun _ _ => trivial)
theorem signTwicew_any_r5 (h : Nat) (t : Nat) (m : Nat) (x : Nat) (p : Nat) (y : Nat) (hb1 : ((pubE x) != 0) = true) (ρ1 : Nat → Orc) (ρ2 : Nat → Orc) (ρ3 : Nat → Orc) (ρ4 : Nat → Orc) (w0 : World) : RegF Tryd.prog 4 (regOps Tryd.f9 4) false 64 [(4, (pt (nb ρ1 1))), (5, (pt (nb ρ1 2))), (6, (.bool false)), (8, (pt (nb ρ3 5))), (9, (.int .i64 (pubE x))), (10, (pt (nb ρ4 6))), (11, (.int .i64 (tsE x t)))] w0 [(nb ρ1 0, (.cells (hB h) 26 (0, 0))), (nb ρ1 1, (.cells (hB t) 26 (0, 0))), (nb ρ1 2, (.cells (hB m) 26 (0, 0))), (nb ρ2 2, (.cells (cU x) 24 (0, 0))), (nb ρ3 5, (.cells (cU p) 24 (0, 0))), (nb ρ4 6, (.cells (cU y) 24 (0, 0)))] (fun w => Kb w 1 (rowK .u32 64 kN) ∧ Kb w 0 #[(.int .u32 1779033703), (.int .u32 3144134277), (.int .u32 1013904242), (.int .u32 2773480762), (.int .u32 1359893119), (.int .u32 2600822924), (.int .u32 528734635), (.int .u32 1541459225)] ∧ True)
    (fun _ => [(4, (pt (nb ρ1 1))), (5, (pt (nb ρ1 2))), (6, (.bool false)), (8, (pt (nb ρ3 5))), (10, (pt (nb ρ4 6))), (38, (.bool true))])
    (fun _ => [(nb ρ1 0, (.cells (hB h) 26 (0, 0))), (nb ρ1 1, (.cells (hB t) 26 (0, 0))), (nb ρ1 2, (.cells (hB m) 26 (0, 0))), (nb ρ2 2, (.cells (cU x) 24 (0, 0))), (nb ρ3 5, (.cells (cU p) 24 (0, 0))), (nb ρ4 6, (.cells (cU y) 24 (0, 0)))]) (fun _ => (fun w => Kb w 1 (rowK .u32 64 kN) ∧ Kb w 0 #[(.int .u32 1779033703), (.int .u32 3144134277), (.int .u32 1013904242), (.int .u32 2773480762), (.int .u32 1359893119), (.int .u32 2600822924), (.int .u32 528734635), (.int .u32 1541459225)] ∧ True)) := by
  refine reg_seq_f [0, 1, 3, 7, 15, 31, 63, 127, 255, 511] [4, 5, 6, 8, 10, 38] 10
    (fun _ ι => ([(.bool true), (.bool false), (.bool false), (.int .i64 (pubE x)), (.bool true), (.bool true), (.bool true), undef, undef, (.bool true)] : List Value).getD ι undef)
    (fun _ ι => ([{}, {}, {}, {}, {}, {}, {}, {}, {}, {}] : List Eff).getD ι {})
    (fun _ ι => ([(fun _ => True), (fun _ => True), (fun _ => True), (fun _ => True), (fun _ => True), (fun _ => True), (fun _ => True), (fun _ => True), (fun _ => True), (fun _ => True)] : List (World → Prop)).getD ι (fun _ => True))
    (by kernel_rfl) (by kernel_rfl) (fun _ => by kernel_rfl) (fun _ => by kernel_rfl) (fun _ _ hF _ => ⟨hF.1, hF.2.1, trivial⟩) ⟨⟨⟨⟨⟨⟨⟨⟨⟨⟨trivial, ?_⟩, ?_⟩, ?_⟩, ?_⟩, ?_⟩, ?_⟩, ?_⟩, ?_⟩, ?_⟩, ?_⟩
  · exact o_callP 0 12 (fun _ => #[]) (fun _ => (.bool true)) (fun _ _ => (by kernel_rfl)) (fun _ => (by kernel_rfl)) (fun _ _ => (by kernel_rfl)) (fun _ _ => trivial) (fun _ _ w hG => ssane_any w hG.facts0.now.1 hG.facts0.now.2.1)
  · exact Obl.brings (o_run 1 [] [] (fun _ _ => []) (fun _ _ => by kernel_rfl)) (fun _ _ => trivial)
  · exact Obl.brings (o_run 2 [] [] (fun _ _ => []) (fun _ _ => by kernel_rfl)) (fun _ _ => trivial)
  · exact Obl.brings (o_run 3 [] [] (fun _ _ => []) (fun _ _ => by kernel_rfl)) (fun _ _ => trivial)
  · exact Obl.brings (o_as 4 (fun _ => (.bool ((pubE x) != 0))) (fun _ => (.bool true)) (fun _ _ => by kernel_rfl) (fun _ => congrArg Value.bool hb1)) (fun _ _ => trivial)
  · exact Obl.brings (o_run 5 [] [] (fun _ _ => []) (fun _ _ => by kernel_rfl)) (fun _ _ => trivial)
  · exact Obl.brings (o_run 6 [] [] (fun _ _ => []) (fun _ _ => by kernel_rfl)) (fun _ _ => trivial)
  · exact Obl.brings (o_skip 7 (fun _ => by kernel_rfl)) (fun _ _ => trivial)
  · exact Obl.brings (o_skip 8 (fun _ => by kernel_rfl)) (fun _ _ => trivial)
  · exact Obl.brings (o_run 9 [] [] (fun _ _ => []) (fun _ _ => by kernel_rfl)) (fun _ _ => trivial)
theorem signTwicew_any_r6 (h : Nat) (t : Nat) (m : Nat) (x : Nat) (p : Nat) (y : Nat) (ρ1 : Nat → Orc) (ρ2 : Nat → Orc) (ρ3 : Nat → Orc) (ρ4 : Nat → Orc) (w0 : World) : RegF Tryd.prog 5 (regOps Tryd.f9 5) false 64 [(4, (pt (nb ρ1 1))), (5, (pt (nb ρ1 2))), (6, (.bool false)), (8, (pt (nb ρ3 5))), (10, (pt (nb ρ4 6))), (38, (.bool true))] w0 [(nb ρ1 0, (.cells (hB h) 26 (0, 0))), (nb ρ1 1, (.cells (hB t) 26 (0, 0))), (nb ρ1 2, (.cells (hB m) 26 (0, 0))), (nb ρ2 2, (.cells (cU x) 24 (0, 0))), (nb ρ3 5, (.cells (cU p) 24 (0, 0))), (nb ρ4 6, (.cells (cU y) 24 (0, 0)))] (fun w => Kb w 1 (rowK .u32 64 kN) ∧ Kb w 0 #[(.int .u32 1779033703), (.int .u32 3144134277), (.int .u32 1013904242), (.int .u32 2773480762), (.int .u32 1359893119), (.int .u32 2600822924), (.int .u32 528734635), (.int .u32 1541459225)] ∧ True)
    (fun _ => [(4, (pt (nb ρ1 1))), (5, (pt (nb ρ1 2))), (6, (.bool true)), (8, (pt (nb ρ3 5))), (10, (pt (nb ρ4 6)))])
    (fun _ => [(nb ρ1 0, (.cells (hB h) 26 (0, 0))), (nb ρ1 1, (.cells (hB t) 26 (0, 0))), (nb ρ1 2, (.cells (hB m) 26 (0, 0))), (nb ρ2 2, (.cells (cU x) 24 (0, 0))), (nb ρ3 5, (.cells (cU p) 24 (0, 0))), (nb ρ4 6, (.cells (cU y) 24 (0, 0)))]) (fun _ => (fun w => Kb w 1 (rowK .u32 64 kN) ∧ Kb w 0 #[(.int .u32 1779033703), (.int .u32 3144134277), (.int .u32 1013904242), (.int .u32 2773480762), (.int .u32 1359893119), (.int .u32 2600822924), (.int .u32 528734635), (.int .u32 1541459225)] ∧ True)) := by
  refine reg_seq_f [0, 1] [4, 5, 6, 8, 10] 2
    (fun _ ι => ([(.bool true), (.bool true)] : List Value).getD ι undef)
    (fun _ ι => ([{}, {}] : List Eff).getD ι {})
    (fun _ ι => ([(fun _ => True), (fun _ => True)] : List (World → Prop)).getD ι (fun _ => True))
    (by kernel_rfl) (by kernel_rfl) (fun _ => by kernel_rfl) (fun _ => by kernel_rfl) (fun _ _ hF _ => ⟨hF.1, hF.2.1, trivial⟩) ⟨⟨trivial, ?_⟩, ?_⟩
  · exact o_callP 0 12 (fun _ => #[]) (fun _ => (.bool true)) (fun _ _ => (by kernel_rfl)) (fun _ => (by kernel_rfl)) (fun _ _ => (by kernel_rfl)) (fun _ _ => trivial) (fun _ _ w hG => ssane_any w hG.facts0.now.1 hG.facts0.now.2.1)
  · exact Obl.brings (o_run 1 [] [] (fun _ _ => []) (fun _ _ => by kernel_rfl)) (fun _ _ => trivial)
theorem signTwicew_any_r7 (h : Nat) (t : Nat) (m : Nat) (x : Nat) (p : Nat) (y : Nat) (hb1 : ((pubE x) != 0) = false) (ρ1 : Nat → Orc) (ρ2 : Nat → Orc) (ρ3 : Nat → Orc) (ρ4 : Nat → Orc) (w0 : World) : RegF Tryd.prog 4 (regOps Tryd.f9 4) false 64 [(4, (pt (nb ρ1 1))), (5, (pt (nb ρ1 2))), (6, (.bool false)), (8, (pt (nb ρ3 5))), (9, (.int .i64 (pubE x))), (10, (pt (nb ρ4 6))), (11, (.int .i64 (tsE x t)))] w0 [(nb ρ1 0, (.cells (hB h) 26 (0, 0))), (nb ρ1 1, (.cells (hB t) 26 (0, 0))), (nb ρ1 2, (.cells (hB m) 26 (0, 0))), (nb ρ2 2, (.cells (cU x) 24 (0, 0))), (nb ρ3 5, (.cells (cU p) 24 (0, 0))), (nb ρ4 6, (.cells (cU y) 24 (0, 0)))] (fun w => Kb w 1 (rowK .u32 64 kN) ∧ Kb w 0 #[(.int .u32 1779033703), (.int .u32 3144134277), (.int .u32 1013904242), (.int .u32 2773480762), (.int .u32 1359893119), (.int .u32 2600822924), (.int .u32 528734635), (.int .u32 1541459225)] ∧ True)
    (fun _ => [(4, (pt (nb ρ1 1))), (5, (pt (nb ρ1 2))), (6, (.bool false)), (8, (pt (nb ρ3 5))), (10, (pt (nb ρ4 6))), (38, (.bool ((tsE x t) != 0)))])
    (fun _ => [(nb ρ1 0, (.cells (hB h) 26 (0, 0))), (nb ρ1 1, (.cells (hB t) 26 (0, 0))), (nb ρ1 2, (.cells (hB m) 26 (0, 0))), (nb ρ2 2, (.cells (cU x) 24 (0, 0))), (nb ρ3 5, (.cells (cU p) 24 (0, 0))), (nb ρ4 6, (.cells (cU y) 24 (0, 0)))]) (fun _ => (fun w => Kb w 1 (rowK .u32 64 kN) ∧ Kb w 0 #[(.int .u32 1779033703), (.int .u32 3144134277), (.int .u32 1013904242), (.int .u32 2773480762), (.int .u32 1359893119), (.int .u32 2600822924), (.int .u32 528734635), (.int .u32 1541459225)] ∧ True)) := by
  refine reg_seq_f [0, 1, 3, 7, 15, 31, 63, 127, 255, 511] [4, 5, 6, 8, 10, 38] 10
    (fun _ ι => ([(.bool true), (.bool false), (.bool false), (.int .i64 (pubE x)), (.bool false), (.bool false), (.bool false), (.int .i64 (tsE x t)), (.bool ((tsE x t) != 0)), (.bool ((tsE x t) != 0))] : List Value).getD ι undef)
    (fun _ ι => ([{}, {}, {}, {}, {}, {}, {}, {}, {}, {}] : List Eff).getD ι {})
    (fun _ ι => ([(fun _ => True), (fun _ => True), (fun _ => True), (fun _ => True), (fun _ => True), (fun _ => True), (fun _ => True), (fun _ => True), (fun _ => True), (fun _ => True)] : List (World → Prop)).getD ι (fun _ => True))
    (by kernel_rfl) (by kernel_rfl) (fun _ => by kernel_rfl) (fun _ => by kernel_rfl) (fun _ _ hF _ => ⟨hF.1, hF.2.1, trivial⟩) ⟨⟨⟨⟨⟨⟨⟨⟨⟨⟨trivial, ?_⟩, ?_⟩, ?_⟩, ?_⟩, ?_⟩, ?_⟩, ?_⟩, ?_⟩, ?_⟩, ?_⟩
  · exact o_callP 0 12 (fun _ => #[]) (fun _ => (.bool true)) (fun _ _ => (by kernel_rfl)) (fun _ => (by kernel_rfl)) (fun _ _ => (by kernel_rfl)) (fun _ _ => trivial) (fun _ _ w hG => ssane_any w hG.facts0.now.1 hG.facts0.now.2.1)
  · exact Obl.brings (o_run 1 [] [] (fun _ _ => []) (fun _ _ => by kernel_rfl)) (fun _ _ => trivial)
  · exact Obl.brings (o_run 2 [] [] (fun _ _ => []) (fun _ _ => by kernel_rfl)) (fun _ _ => trivial)
  · exact Obl.brings (o_run 3 [] [] (fun _ _ => []) (fun _ _ => by kernel_rfl)) (fun _ _ => trivial)
  · exact Obl.brings (o_as 4 (fun _ => (.bool ((pubE x) != 0))) (fun _ => (.bool false)) (fun _ _ => by kernel_rfl) (fun _ => congrArg Value.bool hb1)) (fun _ _ => trivial)
  · exact Obl.brings (o_run 5 [] [] (fun _ _ => []) (fun _ _ => by kernel_rfl)) (fun _ _ => trivial)
  · exact Obl.brings (o_run 6 [] [] (fun _ _ => []) (fun _ _ => by kernel_rfl)) (fun _ _ => trivial)
  · exact Obl.brings (o_run 7 [] [] (fun _ _ => []) (fun _ _ => by kernel_rfl)) (fun _ _ => trivial)
  · exact Obl.brings (o_run 8 [] [] (fun _ _ => []) (fun _ _ => by kernel_rfl)) (fun _ _ => trivial)
  · exact Obl.brings (o_run 9 [] [] (fun _ _ => []) (fun _ _ => by kernel_rfl)) (fun _ _ => trivial)
theorem signTwicew_any_r8 (h : Nat) (t : Nat) (m : Nat) (x : Nat) (p : Nat) (y : Nat) (ρ1 : Nat → Orc) (ρ2 : Nat → Orc) (ρ3 : Nat → Orc) (ρ4 : Nat → Orc) (w0 : World) : RegF Tryd.prog 5 (regOps Tryd.f9 5) false 64 [(4, (pt (nb ρ1 1))), (5, (pt (nb ρ1 2))), (6, (.bool false)), (8, (pt (nb ρ3 5))), (10, (pt (nb ρ4 6))), (38, (.bool true))] w0 [(nb ρ1 0, (.cells (hB h) 26 (0, 0))), (nb ρ1 1, (.cells (hB t) 26 (0, 0))), (nb ρ1 2, (.cells (hB m) 26 (0, 0))), (nb ρ2 2, (.cells (cU x) 24 (0, 0))), (nb ρ3 5, (.cells (cU p) 24 (0, 0))), (nb ρ4 6, (.cells (cU y) 24 (0, 0)))] (fun w => Kb w 1 (rowK .u32 64 kN) ∧ Kb w 0 #[(.int .u32 1779033703), (.int .u32 3144134277), (.int .u32 1013904242), (.int .u32 2773480762), (.int .u32 1359893119), (.int .u32 2600822924), (.int .u32 528734635), (.int .u32 1541459225)] ∧ True)
    (fun _ => [(4, (pt (nb ρ1 1))), (5, (pt (nb ρ1 2))), (6, (.bool true)), (8, (pt (nb ρ3 5))), (10, (pt (nb ρ4 6)))])
    (fun _ => [(nb ρ1 0, (.cells (hB h) 26 (0, 0))), (nb ρ1 1, (.cells (hB t) 26 (0, 0))), (nb ρ1 2, (.cells (hB m) 26 (0, 0))), (nb ρ2 2, (.cells (cU x) 24 (0, 0))), (nb ρ3 5, (.cells (cU p) 24 (0, 0))), (nb ρ4 6, (.cells (cU y) 24 (0, 0)))]) (fun _ => (fun w => Kb w 1 (rowK .u32 64 kN) ∧ Kb w 0 #[(.int .u32 1779033703), (.int .u32 3144134277), (.int .u32 1013904242), (.int .u32 2773480762), (.int .u32 1359893119), (.int .u32 2600822924), (.int .u32 528734635), (.int .u32 1541459225)] ∧ True)) := by
  refine reg_seq_f [0, 1] [4, 5, 6, 8, 10] 2
    (fun _ ι => ([(.bool true), (.bool true)] : List Value).getD ι undef)
    (fun _ ι => ([{}, {}] : List Eff).getD ι {})
    (fun _ ι => ([(fun _ => True), (fun _ => True)] : List (World → Prop)).getD ι (fun _ => True))
    (by kernel_rfl) (by kernel_rfl) (fun _ => by kernel_rfl) (fun _ => by kernel_rfl) (fun _ _ hF _ => ⟨hF.1, hF.2.1, trivial⟩) ⟨⟨trivial, ?_⟩, ?_⟩
  · exact o_callP 0 12 (fun _ => #[]) (fun _ => (.bool true)) (fun _ _ => (by kernel_rfl)) (fun _ => (by kernel_rfl)) (fun _ _ => (by kernel_rfl)) (fun _ _ => trivial) (fun _ _ w hG => ssane_any w hG.facts0.now.1 hG.facts0.now.2.1)
  · exact Obl.brings (o_run 1 [] [] (fun _ _ => []) (fun _ _ => by kernel_rfl)) (fun _ _ => trivial)
theorem signTwicew_any_r9 (h : Nat) (t : Nat) (m : Nat) (x : Nat) (p : Nat) (y : Nat) (q : Nat) (ht : t < M) (hp : p < M) (eq : twV p t = q) (ρ1 : Nat → Orc) (ρ2 : Nat → Orc) (ρ3 : Nat → Orc) (ρ4 : Nat → Orc) (w0 : World) : RegF Tryd.prog 6 (regOps Tryd.f9 6) false 64 [(4, (pt (nb ρ1 1))), (5, (pt (nb ρ1 2))), (6, (.bool false)), (8, (pt (nb ρ3 5))), (10, (pt (nb ρ4 6))), (38, (.bool false))] w0 [(nb ρ1 0, (.cells (hB h) 26 (0, 0))), (nb ρ1 1, (.cells (hB t) 26 (0, 0))), (nb ρ1 2, (.cells (hB m) 26 (0, 0))), (nb ρ2 2, (.cells (cU x) 24 (0, 0))), (nb ρ3 5, (.cells (cU p) 24 (0, 0))), (nb ρ4 6, (.cells (cU y) 24 (0, 0)))] (fun w => Kb w 1 (rowK .u32 64 kN) ∧ Kb w 0 #[(.int .u32 1779033703), (.int .u32 3144134277), (.int .u32 1013904242), (.int .u32 2773480762), (.int .u32 1359893119), (.int .u32 2600822924), (.int .u32 528734635), (.int .u32 1541459225)] ∧ True)
    (fun ρ => [(5, (pt (nb ρ1 2))), (6, (.bool false)), (10, (pt (nb ρ4 6))), (12, (pt (nb ρ 6))), (13, (.int .i64 (twE p t)))])
    (fun ρ => [(nb ρ1 0, (.cells (hB h) 26 (0, 0))), (nb ρ1 1, (.cells (hB t) 26 (0, 0))), (nb ρ1 2, (.cells (hB m) 26 (0, 0))), (nb ρ2 2, (.cells (cU x) 24 (0, 0))), (nb ρ3 5, (.cells (cU p) 24 (0, 0))), (nb ρ4 6, (.cells (cU y) 24 (0, 0))), (nb ρ 6, (.cells (cU q) 24 (0, 0)))]) (fun _ => (fun w => Kb w 1 (rowK .u32 64 kN) ∧ Kb w 0 #[(.int .u32 1779033703), (.int .u32 3144134277), (.int .u32 1013904242), (.int .u32 2773480762), (.int .u32 1359893119), (.int .u32 2600822924), (.int .u32 528734635), (.int .u32 1541459225)] ∧ True)) := by
  refine reg_seq_f [0, 1, 3, 7, 15, 31, 63, 127, 255] [5, 6, 10, 12, 13] 9
    (fun ρ ι => ([(U p), (.agg (hB t)), (.tuple #[(U q), (.int .i64 (twE p t))]), (.tuple #[(U q), (.int .i64 (twE p t))]), (U q), (.int .i64 (twE p t)), (pt (nb ρ 6)), undef, (.int .i64 (twE p t))] : List Value).getD ι undef)
    (fun ρ ι => ([{}, {}, {}, {}, {}, {}, { news := [(nb ρ 6, (.cells (cU 0) 24 (0, 0)))] }, { puts := [(54, (.cells (cU q) 24 (0, 0)))] }, {}] : List Eff).getD ι {})
    (fun _ ι => ([(fun _ => True), (fun _ => True), (fun _ => True), (fun _ => True), (fun _ => True), (fun _ => True), (fun _ => True), (fun _ => True), (fun _ => True)] : List (World → Prop)).getD ι (fun _ => True))
    (by kernel_rfl) (by kernel_rfl) (fun _ => by kernel_rfl) (fun _ => by kernel_rfl) (fun _ _ hF _ => ⟨hF.1, hF.2.1, trivial⟩) ⟨⟨⟨⟨⟨⟨⟨⟨⟨trivial, ?_⟩, ?_⟩, ?_⟩, ?_⟩, ?_⟩, ?_⟩, ?_⟩, ?_⟩, ?_⟩
  · exact Obl.brings (o_run 0 [4] [] (fun _ _ => [nb ρ3 5, nb ρ3 5, nb ρ3 5, nb ρ3 5]) (fun _ _ => by kernel_rfl)) (fun _ _ => trivial)
  · exact Obl.brings (o_run 1 [1] [] (fun _ _ => [nb ρ1 1, nb ρ1 1, nb ρ1 1, nb ρ1 1, nb ρ1 1, nb ρ1 1, nb ρ1 1, nb ρ1 1, nb ρ1 1, nb ρ1 1, nb ρ1 1, nb ρ1 1, nb ρ1 1, nb ρ1 1, nb ρ1 1, nb ρ1 1, nb ρ1 1, nb ρ1 1, nb ρ1 1, nb ρ1 1, nb ρ1 1, nb ρ1 1, nb ρ1 1, nb ρ1 1, nb ρ1 1, nb ρ1 1, nb ρ1 1, nb ρ1 1, nb ρ1 1, nb ρ1 1, nb ρ1 1, nb ρ1 1]) (fun _ _ => by kernel_rfl)) (fun _ _ => trivial)
  · exact o_callP 2 31 (fun _ => #[(U p), (.agg (hB t))]) (fun _ => (.tuple #[(U q), (.int .i64 (twE p t))])) (fun _ _ => (by kernel_rfl)) (fun _ => (by kernel_rfl)) (fun _ _ => (by kernel_rfl)) (fun _ _ => trivial) (fun _ _ w _ => (by as_aux_lemma => (have hcall := (fun w => tweak_any p t hp ht w) w ; rw [eq] at hcall; exact hcall)))
  · exact Obl.brings (o_run 3 [] [] (fun _ _ => []) (fun _ _ => by kernel_rfl)) (fun _ _ => trivial)
  · exact Obl.brings (o_run 4 [] [] (fun _ _ => []) (fun _ _ => by kernel_rfl)) (fun _ _ => trivial)
  · exact Obl.brings (o_run 5 [] [] (fun _ _ => []) (fun _ _ => by kernel_rfl)) (fun _ _ => trivial)
  · exact Obl.brings (o_run 6 [] [] (fun _ _ => []) (fun _ _ => by kernel_rfl)) (fun _ _ => trivial)
  · exact Obl.brings (o_run 7 [54] [] (fun ρ _ => [nb ρ 6, nb ρ 6, nb ρ 6, nb ρ 6]) (fun _ _ => by kernel_rfl)) (fun _ _ => trivial)
  · exact Obl.brings (o_run 8 [] [] (fun _ _ => []) (fun _ _ => by kernel_rfl)) (fun _ _ => trivial)
theorem signTwicew_any_r10 (h : Nat) (t : Nat) (m : Nat) (x : Nat) (p : Nat) (y : Nat) (q : Nat) (e : Nat) (s : Nat) (hm : m < M) (hy : y < M) (ee : sigE y m = e) (es : sigS y m = s) (ρ1 : Nat → Orc) (ρ2 : Nat → Orc) (ρ3 : Nat → Orc) (ρ4 : Nat → Orc) (ρ9 : Nat → Orc) (w0 : World) : RegF Tryd.prog 7 (regOps Tryd.f9 7) false 64 [(5, (pt (nb ρ1 2))), (6, (.bool false)), (10, (pt (nb ρ4 6))), (12, (pt (nb ρ9 6))), (13, (.int .i64 (twE p t)))] w0 [(nb ρ1 0, (.cells (hB h) 26 (0, 0))), (nb ρ1 1, (.cells (hB t) 26 (0, 0))), (nb ρ1 2, (.cells (hB m) 26 (0, 0))), (nb ρ2 2, (.cells (cU x) 24 (0, 0))), (nb ρ3 5, (.cells (cU p) 24 (0, 0))), (nb ρ4 6, (.cells (cU y) 24 (0, 0))), (nb ρ9 6, (.cells (cU q) 24 (0, 0)))] (fun w => Kb w 1 (rowK .u32 64 kN) ∧ Kb w 0 #[(.int .u32 1779033703), (.int .u32 3144134277), (.int .u32 1013904242), (.int .u32 2773480762), (.int .u32 1359893119), (.int .u32 2600822924), (.int .u32 528734635), (.int .u32 1541459225)] ∧ True)
    (fun ρ => [(5, (pt (nb ρ1 2))), (6, (.bool false)), (12, (pt (nb ρ9 6))), (13, (.int .i64 (twE p t))), (14, (pt (nb ρ 6))), (15, (.int .i64 (pubE y)))])
    (fun ρ => [(nb ρ1 0, (.cells (hB h) 26 (0, 0))), (nb ρ1 1, (.cells (hB t) 26 (0, 0))), (nb ρ1 2, (.cells (hB m) 26 (0, 0))), (nb ρ2 2, (.cells (cU x) 24 (0, 0))), (nb ρ3 5, (.cells (cU p) 24 (0, 0))), (nb ρ4 6, (.cells (cU y) 24 (0, 0))), (nb ρ9 6, (.cells (cU q) 24 (0, 0))), (nb ρ 6, (.cells (cU e ++ cU s) 36 (0, 0)))]) (fun _ => (fun w => Kb w 1 (rowK .u32 64 kN) ∧ Kb w 0 #[(.int .u32 1779033703), (.int .u32 3144134277), (.int .u32 1013904242), (.int .u32 2773480762), (.int .u32 1359893119), (.int .u32 2600822924), (.int .u32 528734635), (.int .u32 1541459225)] ∧ True)) := by
  refine reg_seq_f [0, 1, 3, 7, 15, 31, 63, 127, 255] [5, 6, 12, 13, 14, 15] 9
    (fun ρ ι => ([(U y), (.agg (hB m)), (.tuple #[(.agg (cU e ++ cU s)), (.int .i64 (pubE y))]), (.tuple #[(.agg (cU e ++ cU s)), (.int .i64 (pubE y))]), (.agg (cU e ++ cU s)), (.int .i64 (pubE y)), (pt (nb ρ 6)), undef, (.int .i64 (pubE y))] : List Value).getD ι undef)
    (fun ρ ι => ([{}, {}, {}, {}, {}, {}, { news := [(nb ρ 6, (.cells (cU 0 ++ cU 0) 36 (0, 0)))] }, { puts := [(55, (.cells (cU e ++ cU s) 36 (0, 0)))] }, {}] : List Eff).getD ι {})
    (fun _ ι => ([(fun _ => True), (fun _ => True), (fun _ => True), (fun _ => True), (fun _ => True), (fun _ => True), (fun _ => True), (fun _ => True), (fun _ => True)] : List (World → Prop)).getD ι (fun _ => True))
    (by kernel_rfl) (by kernel_rfl) (fun _ => by kernel_rfl) (fun _ => by kernel_rfl) (fun _ _ hF _ => ⟨hF.1, hF.2.1, trivial⟩) ⟨⟨⟨⟨⟨⟨⟨⟨⟨trivial, ?_⟩, ?_⟩, ?_⟩, ?_⟩, ?_⟩, ?_⟩, ?_⟩, ?_⟩, ?_⟩
  · exact Obl.brings (o_run 0 [5] [] (fun _ _ => [nb ρ4 6, nb ρ4 6, nb ρ4 6, nb ρ4 6]) (fun _ _ => by kernel_rfl)) (fun _ _ => trivial)
  · exact Obl.brings (o_run 1 [2] [] (fun _ _ => [nb ρ1 2, nb ρ1 2, nb ρ1 2, nb ρ1 2, nb ρ1 2, nb ρ1 2, nb ρ1 2, nb ρ1 2, nb ρ1 2, nb ρ1 2, nb ρ1 2, nb ρ1 2, nb ρ1 2, nb ρ1 2, nb ρ1 2, nb ρ1 2, nb ρ1 2, nb ρ1 2, nb ρ1 2, nb ρ1 2, nb ρ1 2, nb ρ1 2, nb ρ1 2, nb ρ1 2, nb ρ1 2, nb ρ1 2, nb ρ1 2, nb ρ1 2, nb ρ1 2, nb ρ1 2, nb ρ1 2, nb ρ1 2]) (fun _ _ => by kernel_rfl)) (fun _ _ => trivial)
  · exact o_callP 2 19 (fun _ => #[(U y), (.agg (hB m))]) (fun _ => (.tuple #[(.agg (cU e ++ cU s)), (.int .i64 (pubE y))])) (fun _ _ => (by kernel_rfl)) (fun _ => (by kernel_rfl)) (fun _ _ => (by kernel_rfl)) (fun _ _ => trivial) (fun _ _ w hG => (by as_aux_lemma => (have hcall := sign_any y m hy hm w hG.facts0.now.1 hG.facts0.now.2.1; rw [ee, es] at hcall; exact hcall)))
  · exact Obl.brings (o_run 3 [] [] (fun _ _ => []) (fun _ _ => by kernel_rfl)) (fun _ _ => trivial)
  · exact Obl.brings (o_run 4 [] [] (fun _ _ => []) (fun _ _ => by kernel_rfl)) (fun _ _ => trivial)
  · exact Obl.brings (o_run 5 [] [] (fun _ _ => []) (fun _ _ => by kernel_rfl)) (fun _ _ => trivial)
  · exact Obl.brings (o_run 6 [] [] (fun _ _ => []) (fun _ _ => by kernel_rfl)) (fun _ _ => trivial)
  · exact Obl.brings (o_run 7 [55] [] (fun ρ _ => [nb ρ 6, nb ρ 6, nb ρ 6, nb ρ 6, nb ρ 6, nb ρ 6, nb ρ 6, nb ρ 6]) (fun _ _ => by kernel_rfl)) (fun _ _ => trivial)
  · exact Obl.brings (o_run 8 [] [] (fun _ _ => []) (fun _ _ => by kernel_rfl)) (fun _ _ => trivial)
theorem signTwicew_any_r11 (h : Nat) (t : Nat) (m : Nat) (x : Nat) (p : Nat) (y : Nat) (q : Nat) (e : Nat) (s : Nat) (hm : m < M) (hq : q < M) (he : e < M) (hs : s < M) (ep : pubV x = p) (ey : tsV x t = y) (eq : twV p t = q) (ee : sigE y m = e) (es : sigS y m = s) (hb2 : ((tsE x t) != 0) = false) (ρ1 : Nat → Orc) (ρ2 : Nat → Orc) (ρ3 : Nat → Orc) (ρ4 : Nat → Orc) (ρ9 : Nat → Orc) (ρ10 : Nat → Orc) (w0 : World) : RegF Tryd.prog 8 (regOps Tryd.f9 8) false 64 [(5, (pt (nb ρ1 2))), (6, (.bool false)), (12, (pt (nb ρ9 6))), (13, (.int .i64 (twE p t))), (14, (pt (nb ρ10 6))), (15, (.int .i64 (pubE y)))] w0 [(nb ρ1 0, (.cells (hB h) 26 (0, 0))), (nb ρ1 1, (.cells (hB t) 26 (0, 0))), (nb ρ1 2, (.cells (hB m) 26 (0, 0))), (nb ρ2 2, (.cells (cU x) 24 (0, 0))), (nb ρ3 5, (.cells (cU p) 24 (0, 0))), (nb ρ4 6, (.cells (cU y) 24 (0, 0))), (nb ρ9 6, (.cells (cU q) 24 (0, 0))), (nb ρ10 6, (.cells (cU e ++ cU s) 36 (0, 0)))] (fun w => Kb w 1 (rowK .u32 64 kN) ∧ Kb w 0 #[(.int .u32 1779033703), (.int .u32 3144134277), (.int .u32 1013904242), (.int .u32 2773480762), (.int .u32 1359893119), (.int .u32 2600822924), (.int .u32 528734635), (.int .u32 1541459225)] ∧ True)
    (fun _ => [(6, (.bool true))])
    (fun _ => [(nb ρ1 0, (.cells (hB h) 26 (0, 0))), (nb ρ1 1, (.cells (hB t) 26 (0, 0))), (nb ρ1 2, (.cells (hB m) 26 (0, 0))), (nb ρ2 2, (.cells (cU x) 24 (0, 0))), (nb ρ3 5, (.cells (cU p) 24 (0, 0))), (nb ρ4 6, (.cells (cU y) 24 (0, 0))), (nb ρ9 6, (.cells (cU q) 24 (0, 0))), (nb ρ10 6, (.cells (cU e ++ cU s) 36 (0, 0)))]) (fun _ => (fun w => Kb w 1 (rowK .u32 64 kN) ∧ Kb w 0 #[(.int .u32 1779033703), (.int .u32 3144134277), (.int .u32 1013904242), (.int .u32 2773480762), (.int .u32 1359893119), (.int .u32 2600822924), (.int .u32 528734635), (.int .u32 1541459225)] ∧ True)) := by
  refine reg_seq_f [0, 1, 3, 7, 15, 31, 63, 127, 255, 511, 1023, 2047, 4095] [6] 13
    (fun _ ι => ([(.int .i64 (twE p t)), (.bool true), (.bool true), (.int .i64 (pubE y)), (.bool true), (.bool true), (.bool true), (U q), (.agg (hB m)), (.agg (cU e ++ cU s)), (.bool true), (.bool true), (.bool true)] : List Value).getD ι undef)
    (fun _ ι => ([{}, {}, {}, {}, {}, {}, {}, {}, {}, {}, {}, {}, {}] : List Eff).getD ι {})
    (fun _ ι => ([(fun _ => True), (fun _ => True), (fun _ => True), (fun _ => True), (fun _ => True), (fun _ => True), (fun _ => True), (fun _ => True), (fun _ => True), (fun _ => True), (fun _ => True), (fun _ => True), (fun _ => True)] : List (World → Prop)).getD ι (fun _ => True))
    (by kernel_rfl) (by kernel_rfl) (fun _ => by kernel_rfl) (fun _ => by kernel_rfl) (fun _ _ hF _ => ⟨hF.1, hF.2.1, trivial⟩) ⟨⟨⟨⟨⟨⟨⟨⟨⟨⟨⟨⟨⟨trivial, ?_⟩, ?_⟩, ?_⟩, ?_⟩, ?_⟩, ?_⟩, ?_⟩, ?_⟩, ?_⟩, ?_⟩, ?_⟩, ?_⟩, ?_⟩
  · exact Obl.brings (o_run 0 [] [] (fun _ _ => []) (fun _ _ => by kernel_rfl)) (fun _ _ => trivial)
  · exact Obl.brings (o_as 1 (fun _ => (.bool ((twE p t) == 0))) (fun _ => (.bool true)) (fun _ _ => by kernel_rfl) (fun _ => congrArg Value.bool (show ((twE p t) == 0) = true by rw [← ep]; exact beqI (both (tsE_ok hb2).1 (tsE_ok hb2).2).1))) (fun _ _ => trivial)
  · exact Obl.brings (o_run 2 [] [] (fun _ _ => []) (fun _ _ => by kernel_rfl)) (fun _ _ => trivial)
  · exact Obl.brings (o_run 3 [] [] (fun _ _ => []) (fun _ _ => by kernel_rfl)) (fun _ _ => trivial)
  · exact Obl.brings (o_as 4 (fun _ => (.bool ((pubE y) == 0))) (fun _ => (.bool true)) (fun _ _ => by kernel_rfl) (fun _ => congrArg Value.bool (show ((pubE y) == 0) = true by rw [← ey]; exact beqI (both (tsE_ok hb2).1 (tsE_ok hb2).2).2.2.1))) (fun _ _ => trivial)
  · exact Obl.brings (o_run 5 [] [] (fun _ _ => []) (fun _ _ => by kernel_rfl)) (fun _ _ => trivial)
  · exact Obl.brings (o_run 6 [] [] (fun _ _ => []) (fun _ _ => by kernel_rfl)) (fun _ _ => trivial)
  · exact Obl.brings (o_run 7 [6] [] (fun _ _ => [nb ρ9 6, nb ρ9 6, nb ρ9 6, nb ρ9 6]) (fun _ _ => by kernel_rfl)) (fun _ _ => trivial)
  · exact Obl.brings (o_run 8 [2] [] (fun _ _ => [nb ρ1 2, nb ρ1 2, nb ρ1 2, nb ρ1 2, nb ρ1 2, nb ρ1 2, nb ρ1 2, nb ρ1 2, nb ρ1 2, nb ρ1 2, nb ρ1 2, nb ρ1 2, nb ρ1 2, nb ρ1 2, nb ρ1 2, nb ρ1 2, nb ρ1 2, nb ρ1 2, nb ρ1 2, nb ρ1 2, nb ρ1 2, nb ρ1 2, nb ρ1 2, nb ρ1 2, nb ρ1 2, nb ρ1 2, nb ρ1 2, nb ρ1 2, nb ρ1 2, nb ρ1 2, nb ρ1 2, nb ρ1 2]) (fun _ _ => by kernel_rfl)) (fun _ _ => trivial)
  · exact Obl.brings (o_run 9 [7] [] (fun _ _ => [nb ρ10 6, nb ρ10 6, nb ρ10 6, nb ρ10 6, nb ρ10 6, nb ρ10 6, nb ρ10 6, nb ρ10 6]) (fun _ _ => by kernel_rfl)) (fun _ _ => trivial)
  · exact o_callP 10 21 (fun _ => #[(U q), (.agg (hB m)), (.agg (cU e ++ cU s))]) (fun _ => (.bool true)) (fun _ _ => (by kernel_rfl)) (fun _ => (by kernel_rfl)) (fun _ _ => (by kernel_rfl)) (fun _ _ => trivial) (fun _ _ w hG => (by as_aux_lemma => (have hcall := verify_any q m e s hq hm he hs w hG.facts0.now.1 hG.facts0.now.2.1; rw [(show verB q m e s = true by rw [← eq, ← ep, (both (tsE_ok hb2).1 (tsE_ok hb2).2).2.1, ey, ← ee, ← es]; exact right (by rw [← ey]; exact (both (tsE_ok hb2).1 (tsE_ok hb2).2).2.2.2))] at hcall; exact hcall)))
  · exact Obl.brings (o_run 11 [] [] (fun _ _ => []) (fun _ _ => by kernel_rfl)) (fun _ _ => trivial)
  · exact Obl.brings (o_run 12 [] [] (fun _ _ => []) (fun _ _ => by kernel_rfl)) (fun _ _ => trivial)
theorem signTwicew_any (h : Nat) (t : Nat) (m : Nat) (x : Nat) (p : Nat) (y : Nat) (q : Nat) (e : Nat) (s : Nat) (hh : h < M) (ht : t < M) (hm : m < M) (hx : x < M) (hp : p < M) (hy : y < M) (hq : q < M) (he : e < M) (hs : s < M) (ex : addmN h 0 qP = x) (ep : pubV x = p) (ey : tsV x t = y) (eq : twV p t = q) (ee : sigE y m = e) (es : sigS y m = s) (w0 : World) (hf0 : Kb w0 1 (rowK .u32 64 kN)) (hf1 : Kb w0 0 #[(.int .u32 1779033703), (.int .u32 3144134277), (.int .u32 1013904242), (.int .u32 2773480762), (.int .u32 1359893119), (.int .u32 2600822924), (.int .u32 528734635), (.int .u32 1541459225)]) : Calls Tryd.prog 9 #[(.agg (hB h)), (.agg (hB t)), (.agg (hB m))] w0 (fun ε w' => ε = .returned (.bool true) ∧ Below w0.heap.size w0 w') := by
  refine Calls.of_ok (n := 64) (F := (fun w => Kb w 1 (rowK .u32 64 kN) ∧ Kb w 0 #[(.int .u32 1779033703), (.int .u32 3144134277), (.int .u32 1013904242), (.int .u32 2773480762), (.int .u32 1359893119), (.int .u32 2600822924), (.int .u32 528734635), (.int .u32 1541459225)] ∧ True)) Tryd.func9 rfl rfl rfl (by simp) (hf0.pers0.and (hf1.pers0.and persT)) ?_
  refine ok_seq_r (by kernel_rfl) (signTwicew_any_r1 h t m _ _) (fun ρ1 => ?_)
  refine ok_seq_rf (by kernel_rfl) (signTwicew_any_r2 h t m x hh ex ρ1 _) (fun ρ2 => ?_)
  refine ok_seq_rf (by kernel_rfl) (signTwicew_any_r3 h t m x p hx ep ρ1 ρ2 _) (fun ρ3 => ?_)
  refine ok_seq_rf (by kernel_rfl) (signTwicew_any_r4 h t m x p y ht hx ey ρ1 ρ2 ρ3 _) (fun ρ4 => ?_)
  refine ok_seq ?_
  rcases Bool.eq_false_or_eq_true ((pubE x) != 0) with hb1 | hb1
  ·
    refine ok_seq_rf (by kernel_rfl) (signTwicew_any_r5 h t m x p y hb1 ρ1 ρ2 ρ3 ρ4 _) (fun _ => ?_)
    refine ok_yes (by kernel_rfl) ?_
    refine ok_seq_rf (by kernel_rfl) (signTwicew_any_r6 h t m x p y ρ1 ρ2 ρ3 ρ4 _) (fun _ => ?_)
    refine ok_ret ?_
    refine mt_then_r ?_
    exact meets_ret (v := (.bool true)) [] (dup []) (by kernel_rfl) (by kernel_rfl) (eqs_dup _) (fun _ hS => ⟨rfl, hS.below⟩)
  ·
    refine ok_seq_rf (by kernel_rfl) (signTwicew_any_r7 h t m x p y hb1 ρ1 ρ2 ρ3 ρ4 _) (fun _ => ?_)
    refine ok_cond (b := (tsE x t) != 0) (by kernel_rfl) (fun hb2 => ?_) (fun hb2 => ?_)
    ·
      rw [hb2]
      refine ok_seq_rf (by kernel_rfl) (signTwicew_any_r8 h t m x p y ρ1 ρ2 ρ3 ρ4 _) (fun _ => ?_)
      refine ok_ret ?_
      refine mt_then_r ?_
      exact meets_ret (v := (.bool true)) [] (dup []) (by kernel_rfl) (by kernel_rfl) (eqs_dup _) (fun _ hS => ⟨rfl, hS.below⟩)
    ·
      rw [hb2]
      refine ok_skip ?_
      refine mt_then ?_
      refine ok_seq_rf (by kernel_rfl) (signTwicew_any_r9 h t m x p y q ht hp eq ρ1 ρ2 ρ3 ρ4 _) (fun ρ9 => ?_)
      refine ok_seq_rf (by kernel_rfl) (signTwicew_any_r10 h t m x p y q e s hm hy ee es ρ1 ρ2 ρ3 ρ4 ρ9 _) (fun ρ10 => ?_)
      refine ok_seq_rf (by kernel_rfl) (signTwicew_any_r11 h t m x p y q e s hm hq he hs ep ey eq ee es hb2 ρ1 ρ2 ρ3 ρ4 ρ9 ρ10 _) (fun _ => ?_)
      refine ok_ret ?_
      exact meets_ret (v := (.bool true)) [] (dup []) (by kernel_rfl) (by kernel_rfl) (eqs_dup _) (fun _ hS => ⟨rfl, hS.below⟩)
theorem signTwice_any (h : Nat) (t : Nat) (m : Nat) (hh : h < M) (ht : t < M) (hm : m < M) (w0 : World) (hf0 : Kb w0 1 (rowK .u32 64 kN)) (hf1 : Kb w0 0 #[(.int .u32 1779033703), (.int .u32 3144134277), (.int .u32 1013904242), (.int .u32 2773480762), (.int .u32 1359893119), (.int .u32 2600822924), (.int .u32 528734635), (.int .u32 1541459225)]) : Calls Tryd.prog 9 #[(.agg (hB h)), (.agg (hB t)), (.agg (hB m))] w0 (fun ε w' => ε = .returned (.bool true) ∧ Below w0.heap.size w0 w') := signTwicew_any h t m (addmN h 0 qP) (pubV (addmN h 0 qP)) (tsV (addmN h 0 qP) t) (twV (pubV (addmN h 0 qP)) t) (sigE (tsV (addmN h 0 qP) t) m) (sigS (tsV (addmN h 0 qP) t) m) hh ht hm (addmN_lt _ _ qP_lt) (pubV_lt _) (tsV_lt _ _) (twV_lt _ _) (sigE_lt _ _) (sigS_lt _ _) rfl rfl rfl rfl rfl rfl w0 hf0 hf1
end Go.Proofs.YtoibhbmcplhiaaaDoor
