/-
  The law SignTweaks: the walk.
-/
import Derived.Test.YtoibhbmcplhiaaaDoorSSign
namespace Go.Proofs.YtoibhbmcplhiaaaDoor
open Go Go.RowKit
set_option maxRecDepth 100000
theorem signTweaksw_any_r1 (x : Nat) (p : Nat) (t : Nat) (w0 : World) (F : World → Prop) : Reg Tryd.prog 0 (regOps Tryd.f8 0) false 101 [(0, (U x)), (1, (U p)), (2, (.agg (hB t)))] w0 [] F
    (fun ρ => [(3, (pt (nb ρ 0))), (4, (pt (nb ρ 1))), (5, (pt (nb ρ 2))), (6, (.bool false))])
    (fun ρ => [(nb ρ 0, (.cells (cU x) 24 (0, 0))), (nb ρ 1, (.cells (cU p) 24 (0, 0))), (nb ρ 2, (.cells (hB t) 26 (0, 0)))]) := by
  refine reg_seq [0, 1, 3, 7] [3, 4, 5, 6] 4
    (fun ρ ι => ([(pt (nb ρ 0)), (pt (nb ρ 1)), (pt (nb ρ 2)), (.bool false)] : List Value).getD ι undef)
    (fun ρ ι => ([{ news := [(nb ρ 0, (.cells (cU x) 24 (0, 0)))] }, { news := [(nb ρ 1, (.cells (cU p) 24 (0, 0)))] }, { news := [(nb ρ 2, (.cells (hB t) 26 (0, 0)))] }, {}] : List Eff).getD ι {})
    (by kernel_rfl) (by kernel_rfl) (fun _ => by kernel_rfl) (fun _ => by kernel_rfl) ⟨⟨⟨⟨trivial, ?_⟩, ?_⟩, ?_⟩, ?_⟩
  · exact o_run 0 [] [] (fun _ _ => []) (fun _ _ => by kernel_rfl)
  · exact o_run 1 [] [] (fun _ _ => []) (fun _ _ => by kernel_rfl)
  · exact o_run 2 [] [] (fun _ _ => []) (fun _ _ => by kernel_rfl)
  · exact o_run 3 [] [] (fun _ _ => []) (fun _ _ => by kernel_rfl)
theorem signTweaksw_any_r2 (x : Nat) (p : Nat) (t : Nat) (ρ1 : Nat → Orc) (w0 : World) : RegF Tryd.prog 1 (regOps Tryd.f8 1) false 101 [(3, (pt (nb ρ1 0))), (4, (pt (nb ρ1 1))), (5, (pt (nb ρ1 2))), (6, (.bool false))] w0 [(nb ρ1 0, (.cells (cU x) 24 (0, 0))), (nb ρ1 1, (.cells (cU p) 24 (0, 0))), (nb ρ1 2, (.cells (hB t) 26 (0, 0)))] (fun w => Kb w 1 (rowK .u32 64 kN) ∧ Kb w 0 #[(.int .u32 1779033703), (.int .u32 3144134277), (.int .u32 1013904242), (.int .u32 2773480762), (.int .u32 1359893119), (.int .u32 2600822924), (.int .u32 528734635), (.int .u32 1541459225)] ∧ True)
    (fun _ => [(3, (pt (nb ρ1 0))), (4, (pt (nb ρ1 1))), (5, (pt (nb ρ1 2))), (6, (.bool false)), (22, (.bool false))])
    (fun _ => [(nb ρ1 0, (.cells (cU x) 24 (0, 0))), (nb ρ1 1, (.cells (cU p) 24 (0, 0))), (nb ρ1 2, (.cells (hB t) 26 (0, 0)))]) (fun _ => (fun w => Kb w 1 (rowK .u32 64 kN) ∧ Kb w 0 #[(.int .u32 1779033703), (.int .u32 3144134277), (.int .u32 1013904242), (.int .u32 2773480762), (.int .u32 1359893119), (.int .u32 2600822924), (.int .u32 528734635), (.int .u32 1541459225)] ∧ True)) := by
  refine reg_seq_f [0, 1] [3, 4, 5, 6, 22] 2
    (fun _ ι => ([(.bool true), (.bool false)] : List Value).getD ι undef)
    (fun _ ι => ([{}, {}] : List Eff).getD ι {})
    (fun _ ι => ([(fun _ => True), (fun _ => True)] : List (World → Prop)).getD ι (fun _ => True))
    (by kernel_rfl) (by kernel_rfl) (fun _ => by kernel_rfl) (fun _ => by kernel_rfl) (fun _ _ hF _ => ⟨hF.1, hF.2.1, trivial⟩) ⟨⟨trivial, ?_⟩, ?_⟩
  · exact o_callP 0 12 (fun _ => #[]) (fun _ => (.bool true)) (fun _ _ => (by kernel_rfl)) (fun _ => (by kernel_rfl)) (fun _ _ => (by kernel_rfl)) (fun _ _ => trivial) (fun _ _ w hG => ssane_any w hG.facts0.now.1 hG.facts0.now.2.1)
  · exact Obl.brings (o_run 1 [] [] (fun _ _ => []) (fun _ _ => by kernel_rfl)) (fun _ _ => trivial)
theorem signTweaksw_any_r3 (x : Nat) (p : Nat) (t : Nat) (a : Nat) (hp : p < M) (ht : t < M) (ea : twV p t = a) (ρ1 : Nat → Orc) (w0 : World) : RegF Tryd.prog 3 (regOps Tryd.f8 3) false 101 [(3, (pt (nb ρ1 0))), (4, (pt (nb ρ1 1))), (5, (pt (nb ρ1 2))), (6, (.bool false)), (22, (.bool false))] w0 [(nb ρ1 0, (.cells (cU x) 24 (0, 0))), (nb ρ1 1, (.cells (cU p) 24 (0, 0))), (nb ρ1 2, (.cells (hB t) 26 (0, 0)))] (fun w => Kb w 1 (rowK .u32 64 kN) ∧ Kb w 0 #[(.int .u32 1779033703), (.int .u32 3144134277), (.int .u32 1013904242), (.int .u32 2773480762), (.int .u32 1359893119), (.int .u32 2600822924), (.int .u32 528734635), (.int .u32 1541459225)] ∧ True)
    (fun ρ => [(3, (pt (nb ρ1 0))), (4, (pt (nb ρ1 1))), (5, (pt (nb ρ1 2))), (6, (.bool false)), (7, (pt (nb ρ 6))), (8, (.int .i64 (twE p t)))])
    (fun ρ => [(nb ρ1 0, (.cells (cU x) 24 (0, 0))), (nb ρ1 1, (.cells (cU p) 24 (0, 0))), (nb ρ1 2, (.cells (hB t) 26 (0, 0))), (nb ρ 6, (.cells (cU a) 24 (0, 0)))]) (fun _ => (fun w => Kb w 1 (rowK .u32 64 kN) ∧ Kb w 0 #[(.int .u32 1779033703), (.int .u32 3144134277), (.int .u32 1013904242), (.int .u32 2773480762), (.int .u32 1359893119), (.int .u32 2600822924), (.int .u32 528734635), (.int .u32 1541459225)] ∧ True)) := by
  refine reg_seq_f [0, 1, 3, 7, 15, 31, 63, 127, 255] [3, 4, 5, 6, 7, 8] 9
    (fun ρ ι => ([(U p), (.agg (hB t)), (.tuple #[(U a), (.int .i64 (twE p t))]), (.tuple #[(U a), (.int .i64 (twE p t))]), (U a), (.int .i64 (twE p t)), (pt (nb ρ 6)), undef, (.int .i64 (twE p t))] : List Value).getD ι undef)
    (fun ρ ι => ([{}, {}, {}, {}, {}, {}, { news := [(nb ρ 6, (.cells (cU 0) 24 (0, 0)))] }, { puts := [(51, (.cells (cU a) 24 (0, 0)))] }, {}] : List Eff).getD ι {})
    (fun _ ι => ([(fun _ => True), (fun _ => True), (fun _ => True), (fun _ => True), (fun _ => True), (fun _ => True), (fun _ => True), (fun _ => True), (fun _ => True)] : List (World → Prop)).getD ι (fun _ => True))
    (by kernel_rfl) (by kernel_rfl) (fun _ => by kernel_rfl) (fun _ => by kernel_rfl) (fun _ _ hF _ => ⟨hF.1, hF.2.1, trivial⟩) ⟨⟨⟨⟨⟨⟨⟨⟨⟨trivial, ?_⟩, ?_⟩, ?_⟩, ?_⟩, ?_⟩, ?_⟩, ?_⟩, ?_⟩, ?_⟩
  · exact Obl.brings (o_run 0 [1] [] (fun _ _ => [nb ρ1 1, nb ρ1 1, nb ρ1 1, nb ρ1 1]) (fun _ _ => by kernel_rfl)) (fun _ _ => trivial)
  · exact Obl.brings (o_run 1 [2] [] (fun _ _ => [nb ρ1 2, nb ρ1 2, nb ρ1 2, nb ρ1 2, nb ρ1 2, nb ρ1 2, nb ρ1 2, nb ρ1 2, nb ρ1 2, nb ρ1 2, nb ρ1 2, nb ρ1 2, nb ρ1 2, nb ρ1 2, nb ρ1 2, nb ρ1 2, nb ρ1 2, nb ρ1 2, nb ρ1 2, nb ρ1 2, nb ρ1 2, nb ρ1 2, nb ρ1 2, nb ρ1 2, nb ρ1 2, nb ρ1 2, nb ρ1 2, nb ρ1 2, nb ρ1 2, nb ρ1 2, nb ρ1 2, nb ρ1 2]) (fun _ _ => by kernel_rfl)) (fun _ _ => trivial)
  · exact o_callP 2 31 (fun _ => #[(U p), (.agg (hB t))]) (fun _ => (.tuple #[(U a), (.int .i64 (twE p t))])) (fun _ _ => (by kernel_rfl)) (fun _ => (by kernel_rfl)) (fun _ _ => (by kernel_rfl)) (fun _ _ => trivial) (fun _ _ w _ => (by as_aux_lemma => (have hcall := (fun w => tweak_any p t hp ht w) w ; rw [ea] at hcall; exact hcall)))
  · exact Obl.brings (o_run 3 [] [] (fun _ _ => []) (fun _ _ => by kernel_rfl)) (fun _ _ => trivial)
  · exact Obl.brings (o_run 4 [] [] (fun _ _ => []) (fun _ _ => by kernel_rfl)) (fun _ _ => trivial)
  · exact Obl.brings (o_run 5 [] [] (fun _ _ => []) (fun _ _ => by kernel_rfl)) (fun _ _ => trivial)
  · exact Obl.brings (o_run 6 [] [] (fun _ _ => []) (fun _ _ => by kernel_rfl)) (fun _ _ => trivial)
  · exact Obl.brings (o_run 7 [51] [] (fun ρ _ => [nb ρ 6, nb ρ 6, nb ρ 6, nb ρ 6]) (fun _ _ => by kernel_rfl)) (fun _ _ => trivial)
  · exact Obl.brings (o_run 8 [] [] (fun _ _ => []) (fun _ _ => by kernel_rfl)) (fun _ _ => trivial)
theorem signTweaksw_any_r4 (x : Nat) (p : Nat) (t : Nat) (a : Nat) (hp : p < M) (ht : t < M) (ea : twV p t = a) (ρ1 : Nat → Orc) (ρ3 : Nat → Orc) (w0 : World) : RegF Tryd.prog 4 (regOps Tryd.f8 4) false 101 [(3, (pt (nb ρ1 0))), (4, (pt (nb ρ1 1))), (5, (pt (nb ρ1 2))), (6, (.bool false)), (7, (pt (nb ρ3 6))), (8, (.int .i64 (twE p t)))] w0 [(nb ρ1 0, (.cells (cU x) 24 (0, 0))), (nb ρ1 1, (.cells (cU p) 24 (0, 0))), (nb ρ1 2, (.cells (hB t) 26 (0, 0))), (nb ρ3 6, (.cells (cU a) 24 (0, 0)))] (fun w => Kb w 1 (rowK .u32 64 kN) ∧ Kb w 0 #[(.int .u32 1779033703), (.int .u32 3144134277), (.int .u32 1013904242), (.int .u32 2773480762), (.int .u32 1359893119), (.int .u32 2600822924), (.int .u32 528734635), (.int .u32 1541459225)] ∧ True)
    (fun ρ => [(3, (pt (nb ρ1 0))), (5, (pt (nb ρ1 2))), (6, (.bool false)), (7, (pt (nb ρ3 6))), (8, (.int .i64 (twE p t))), (9, (pt (nb ρ 6))), (10, (.int .i64 (twE p t)))])
    (fun ρ => [(nb ρ1 0, (.cells (cU x) 24 (0, 0))), (nb ρ1 1, (.cells (cU p) 24 (0, 0))), (nb ρ1 2, (.cells (hB t) 26 (0, 0))), (nb ρ3 6, (.cells (cU a) 24 (0, 0))), (nb ρ 6, (.cells (cU a) 24 (0, 0)))]) (fun _ => (fun w => Kb w 1 (rowK .u32 64 kN) ∧ Kb w 0 #[(.int .u32 1779033703), (.int .u32 3144134277), (.int .u32 1013904242), (.int .u32 2773480762), (.int .u32 1359893119), (.int .u32 2600822924), (.int .u32 528734635), (.int .u32 1541459225)] ∧ True)) := by
  refine reg_seq_f [0, 1, 3, 7, 15, 31, 63, 127, 255] [3, 5, 6, 7, 8, 9, 10] 9
    (fun ρ ι => ([(U p), (.agg (hB t)), (.tuple #[(U a), (.int .i64 (twE p t))]), (.tuple #[(U a), (.int .i64 (twE p t))]), (U a), (.int .i64 (twE p t)), (pt (nb ρ 6)), undef, (.int .i64 (twE p t))] : List Value).getD ι undef)
    (fun ρ ι => ([{}, {}, {}, {}, {}, {}, { news := [(nb ρ 6, (.cells (cU 0) 24 (0, 0)))] }, { puts := [(52, (.cells (cU a) 24 (0, 0)))] }, {}] : List Eff).getD ι {})
    (fun _ ι => ([(fun _ => True), (fun _ => True), (fun _ => True), (fun _ => True), (fun _ => True), (fun _ => True), (fun _ => True), (fun _ => True), (fun _ => True)] : List (World → Prop)).getD ι (fun _ => True))
    (by kernel_rfl) (by kernel_rfl) (fun _ => by kernel_rfl) (fun _ => by kernel_rfl) (fun _ _ hF _ => ⟨hF.1, hF.2.1, trivial⟩) ⟨⟨⟨⟨⟨⟨⟨⟨⟨trivial, ?_⟩, ?_⟩, ?_⟩, ?_⟩, ?_⟩, ?_⟩, ?_⟩, ?_⟩, ?_⟩
  · exact Obl.brings (o_run 0 [1] [] (fun _ _ => [nb ρ1 1, nb ρ1 1, nb ρ1 1, nb ρ1 1]) (fun _ _ => by kernel_rfl)) (fun _ _ => trivial)
  · exact Obl.brings (o_run 1 [2] [] (fun _ _ => [nb ρ1 2, nb ρ1 2, nb ρ1 2, nb ρ1 2, nb ρ1 2, nb ρ1 2, nb ρ1 2, nb ρ1 2, nb ρ1 2, nb ρ1 2, nb ρ1 2, nb ρ1 2, nb ρ1 2, nb ρ1 2, nb ρ1 2, nb ρ1 2, nb ρ1 2, nb ρ1 2, nb ρ1 2, nb ρ1 2, nb ρ1 2, nb ρ1 2, nb ρ1 2, nb ρ1 2, nb ρ1 2, nb ρ1 2, nb ρ1 2, nb ρ1 2, nb ρ1 2, nb ρ1 2, nb ρ1 2, nb ρ1 2]) (fun _ _ => by kernel_rfl)) (fun _ _ => trivial)
  · exact o_callP 2 32 (fun _ => #[(U p), (.agg (hB t))]) (fun _ => (.tuple #[(U a), (.int .i64 (twE p t))])) (fun _ _ => (by kernel_rfl)) (fun _ => (by kernel_rfl)) (fun _ _ => (by kernel_rfl)) (fun _ _ => trivial) (fun _ _ w _ => (by as_aux_lemma => (have hcall := (fun w => rtweak_any p t hp ht w) w ; rw [ea] at hcall; exact hcall)))
  · exact Obl.brings (o_run 3 [] [] (fun _ _ => []) (fun _ _ => by kernel_rfl)) (fun _ _ => trivial)
  · exact Obl.brings (o_run 4 [] [] (fun _ _ => []) (fun _ _ => by kernel_rfl)) (fun _ _ => trivial)
  · exact Obl.brings (o_run 5 [] [] (fun _ _ => []) (fun _ _ => by kernel_rfl)) (fun _ _ => trivial)
  · exact Obl.brings (o_run 6 [] [] (fun _ _ => []) (fun _ _ => by kernel_rfl)) (fun _ _ => trivial)
  · exact Obl.brings (o_run 7 [52] [] (fun ρ _ => [nb ρ 6, nb ρ 6, nb ρ 6, nb ρ 6]) (fun _ _ => by kernel_rfl)) (fun _ _ => trivial)
  · exact Obl.brings (o_run 8 [] [] (fun _ _ => []) (fun _ _ => by kernel_rfl)) (fun _ _ => trivial)
theorem signTweaksw_any_r5 (x : Nat) (p : Nat) (t : Nat) (a : Nat) (c : Nat) (hx : x < M) (ht : t < M) (ec : tsV x t = c) (ρ1 : Nat → Orc) (ρ3 : Nat → Orc) (ρ4 : Nat → Orc) (w0 : World) : RegF Tryd.prog 5 (regOps Tryd.f8 5) false 101 [(3, (pt (nb ρ1 0))), (5, (pt (nb ρ1 2))), (6, (.bool false)), (7, (pt (nb ρ3 6))), (8, (.int .i64 (twE p t))), (9, (pt (nb ρ4 6))), (10, (.int .i64 (twE p t)))] w0 [(nb ρ1 0, (.cells (cU x) 24 (0, 0))), (nb ρ1 1, (.cells (cU p) 24 (0, 0))), (nb ρ1 2, (.cells (hB t) 26 (0, 0))), (nb ρ3 6, (.cells (cU a) 24 (0, 0))), (nb ρ4 6, (.cells (cU a) 24 (0, 0)))] (fun w => Kb w 1 (rowK .u32 64 kN) ∧ Kb w 0 #[(.int .u32 1779033703), (.int .u32 3144134277), (.int .u32 1013904242), (.int .u32 2773480762), (.int .u32 1359893119), (.int .u32 2600822924), (.int .u32 528734635), (.int .u32 1541459225)] ∧ True)
    (fun ρ => [(3, (pt (nb ρ1 0))), (5, (pt (nb ρ1 2))), (6, (.bool false)), (7, (pt (nb ρ3 6))), (8, (.int .i64 (twE p t))), (9, (pt (nb ρ4 6))), (10, (.int .i64 (twE p t))), (11, (pt (nb ρ 6))), (12, (.int .i64 (tsE x t)))])
    (fun ρ => [(nb ρ1 0, (.cells (cU x) 24 (0, 0))), (nb ρ1 1, (.cells (cU p) 24 (0, 0))), (nb ρ1 2, (.cells (hB t) 26 (0, 0))), (nb ρ3 6, (.cells (cU a) 24 (0, 0))), (nb ρ4 6, (.cells (cU a) 24 (0, 0))), (nb ρ 6, (.cells (cU c) 24 (0, 0)))]) (fun _ => (fun w => Kb w 1 (rowK .u32 64 kN) ∧ Kb w 0 #[(.int .u32 1779033703), (.int .u32 3144134277), (.int .u32 1013904242), (.int .u32 2773480762), (.int .u32 1359893119), (.int .u32 2600822924), (.int .u32 528734635), (.int .u32 1541459225)] ∧ True)) := by
  refine reg_seq_f [0, 1, 3, 7, 15, 31, 63, 127, 255] [3, 5, 6, 7, 8, 9, 10, 11, 12] 9
    (fun ρ ι => ([(U x), (.agg (hB t)), (.tuple #[(U c), (.int .i64 (tsE x t))]), (.tuple #[(U c), (.int .i64 (tsE x t))]), (U c), (.int .i64 (tsE x t)), (pt (nb ρ 6)), undef, (.int .i64 (tsE x t))] : List Value).getD ι undef)
    (fun ρ ι => ([{}, {}, {}, {}, {}, {}, { news := [(nb ρ 6, (.cells (cU 0) 24 (0, 0)))] }, { puts := [(53, (.cells (cU c) 24 (0, 0)))] }, {}] : List Eff).getD ι {})
    (fun _ ι => ([(fun _ => True), (fun _ => True), (fun _ => True), (fun _ => True), (fun _ => True), (fun _ => True), (fun _ => True), (fun _ => True), (fun _ => True)] : List (World → Prop)).getD ι (fun _ => True))
    (by kernel_rfl) (by kernel_rfl) (fun _ => by kernel_rfl) (fun _ => by kernel_rfl) (fun _ _ hF _ => ⟨hF.1, hF.2.1, trivial⟩) ⟨⟨⟨⟨⟨⟨⟨⟨⟨trivial, ?_⟩, ?_⟩, ?_⟩, ?_⟩, ?_⟩, ?_⟩, ?_⟩, ?_⟩, ?_⟩
  · exact Obl.brings (o_run 0 [0] [] (fun _ _ => [nb ρ1 0, nb ρ1 0, nb ρ1 0, nb ρ1 0]) (fun _ _ => by kernel_rfl)) (fun _ _ => trivial)
  · exact Obl.brings (o_run 1 [2] [] (fun _ _ => [nb ρ1 2, nb ρ1 2, nb ρ1 2, nb ρ1 2, nb ρ1 2, nb ρ1 2, nb ρ1 2, nb ρ1 2, nb ρ1 2, nb ρ1 2, nb ρ1 2, nb ρ1 2, nb ρ1 2, nb ρ1 2, nb ρ1 2, nb ρ1 2, nb ρ1 2, nb ρ1 2, nb ρ1 2, nb ρ1 2, nb ρ1 2, nb ρ1 2, nb ρ1 2, nb ρ1 2, nb ρ1 2, nb ρ1 2, nb ρ1 2, nb ρ1 2, nb ρ1 2, nb ρ1 2, nb ρ1 2, nb ρ1 2]) (fun _ _ => by kernel_rfl)) (fun _ _ => trivial)
  · exact o_callP 2 33 (fun _ => #[(U x), (.agg (hB t))]) (fun _ => (.tuple #[(U c), (.int .i64 (tsE x t))])) (fun _ _ => (by kernel_rfl)) (fun _ => (by kernel_rfl)) (fun _ _ => (by kernel_rfl)) (fun _ _ => trivial) (fun _ _ w _ => (by as_aux_lemma => (have hcall := (fun w => tweaksecret_any x t hx ht w) w ; rw [ec] at hcall; exact hcall)))
  · exact Obl.brings (o_run 3 [] [] (fun _ _ => []) (fun _ _ => by kernel_rfl)) (fun _ _ => trivial)
  · exact Obl.brings (o_run 4 [] [] (fun _ _ => []) (fun _ _ => by kernel_rfl)) (fun _ _ => trivial)
  · exact Obl.brings (o_run 5 [] [] (fun _ _ => []) (fun _ _ => by kernel_rfl)) (fun _ _ => trivial)
  · exact Obl.brings (o_run 6 [] [] (fun _ _ => []) (fun _ _ => by kernel_rfl)) (fun _ _ => trivial)
  · exact Obl.brings (o_run 7 [53] [] (fun ρ _ => [nb ρ 6, nb ρ 6, nb ρ 6, nb ρ 6]) (fun _ _ => by kernel_rfl)) (fun _ _ => trivial)
  · exact Obl.brings (o_run 8 [] [] (fun _ _ => []) (fun _ _ => by kernel_rfl)) (fun _ _ => trivial)
theorem signTweaksw_any_r6 (x : Nat) (p : Nat) (t : Nat) (a : Nat) (c : Nat) (hx : x < M) (ht : t < M) (ec : tsV x t = c) (ρ1 : Nat → Orc) (ρ3 : Nat → Orc) (ρ4 : Nat → Orc) (ρ5 : Nat → Orc) (w0 : World) : RegF Tryd.prog 6 (regOps Tryd.f8 6) false 101 [(3, (pt (nb ρ1 0))), (5, (pt (nb ρ1 2))), (6, (.bool false)), (7, (pt (nb ρ3 6))), (8, (.int .i64 (twE p t))), (9, (pt (nb ρ4 6))), (10, (.int .i64 (twE p t))), (11, (pt (nb ρ5 6))), (12, (.int .i64 (tsE x t)))] w0 [(nb ρ1 0, (.cells (cU x) 24 (0, 0))), (nb ρ1 1, (.cells (cU p) 24 (0, 0))), (nb ρ1 2, (.cells (hB t) 26 (0, 0))), (nb ρ3 6, (.cells (cU a) 24 (0, 0))), (nb ρ4 6, (.cells (cU a) 24 (0, 0))), (nb ρ5 6, (.cells (cU c) 24 (0, 0)))] (fun w => Kb w 1 (rowK .u32 64 kN) ∧ Kb w 0 #[(.int .u32 1779033703), (.int .u32 3144134277), (.int .u32 1013904242), (.int .u32 2773480762), (.int .u32 1359893119), (.int .u32 2600822924), (.int .u32 528734635), (.int .u32 1541459225)] ∧ True)
    (fun ρ => [(3, (pt (nb ρ1 0))), (5, (pt (nb ρ1 2))), (6, (.bool false)), (7, (pt (nb ρ3 6))), (8, (.int .i64 (twE p t))), (9, (pt (nb ρ4 6))), (10, (.int .i64 (twE p t))), (11, (pt (nb ρ5 6))), (12, (.int .i64 (tsE x t))), (13, (pt (nb ρ 6))), (14, (.int .i64 (tsE x t)))])
    (fun ρ => [(nb ρ1 0, (.cells (cU x) 24 (0, 0))), (nb ρ1 1, (.cells (cU p) 24 (0, 0))), (nb ρ1 2, (.cells (hB t) 26 (0, 0))), (nb ρ3 6, (.cells (cU a) 24 (0, 0))), (nb ρ4 6, (.cells (cU a) 24 (0, 0))), (nb ρ5 6, (.cells (cU c) 24 (0, 0))), (nb ρ 6, (.cells (cU c) 24 (0, 0)))]) (fun _ => (fun w => Kb w 1 (rowK .u32 64 kN) ∧ Kb w 0 #[(.int .u32 1779033703), (.int .u32 3144134277), (.int .u32 1013904242), (.int .u32 2773480762), (.int .u32 1359893119), (.int .u32 2600822924), (.int .u32 528734635), (.int .u32 1541459225)] ∧ True)) := by
  refine reg_seq_f [0, 1, 3, 7, 15, 31, 63, 127, 255] [3, 5, 6, 7, 8, 9, 10, 11, 12, 13, 14] 9
    (fun ρ ι => ([(U x), (.agg (hB t)), (.tuple #[(U c), (.int .i64 (tsE x t))]), (.tuple #[(U c), (.int .i64 (tsE x t))]), (U c), (.int .i64 (tsE x t)), (pt (nb ρ 6)), undef, (.int .i64 (tsE x t))] : List Value).getD ι undef)
    (fun ρ ι => ([{}, {}, {}, {}, {}, {}, { news := [(nb ρ 6, (.cells (cU 0) 24 (0, 0)))] }, { puts := [(54, (.cells (cU c) 24 (0, 0)))] }, {}] : List Eff).getD ι {})
    (fun _ ι => ([(fun _ => True), (fun _ => True), (fun _ => True), (fun _ => True), (fun _ => True), (fun _ => True), (fun _ => True), (fun _ => True), (fun _ => True)] : List (World → Prop)).getD ι (fun _ => True))
    (by kernel_rfl) (by kernel_rfl) (fun _ => by kernel_rfl) (fun _ => by kernel_rfl) (fun _ _ hF _ => ⟨hF.1, hF.2.1, trivial⟩) ⟨⟨⟨⟨⟨⟨⟨⟨⟨trivial, ?_⟩, ?_⟩, ?_⟩, ?_⟩, ?_⟩, ?_⟩, ?_⟩, ?_⟩, ?_⟩
  · exact Obl.brings (o_run 0 [0] [] (fun _ _ => [nb ρ1 0, nb ρ1 0, nb ρ1 0, nb ρ1 0]) (fun _ _ => by kernel_rfl)) (fun _ _ => trivial)
  · exact Obl.brings (o_run 1 [2] [] (fun _ _ => [nb ρ1 2, nb ρ1 2, nb ρ1 2, nb ρ1 2, nb ρ1 2, nb ρ1 2, nb ρ1 2, nb ρ1 2, nb ρ1 2, nb ρ1 2, nb ρ1 2, nb ρ1 2, nb ρ1 2, nb ρ1 2, nb ρ1 2, nb ρ1 2, nb ρ1 2, nb ρ1 2, nb ρ1 2, nb ρ1 2, nb ρ1 2, nb ρ1 2, nb ρ1 2, nb ρ1 2, nb ρ1 2, nb ρ1 2, nb ρ1 2, nb ρ1 2, nb ρ1 2, nb ρ1 2, nb ρ1 2, nb ρ1 2]) (fun _ _ => by kernel_rfl)) (fun _ _ => trivial)
  · exact o_callP 2 34 (fun _ => #[(U x), (.agg (hB t))]) (fun _ => (.tuple #[(U c), (.int .i64 (tsE x t))])) (fun _ _ => (by kernel_rfl)) (fun _ => (by kernel_rfl)) (fun _ _ => (by kernel_rfl)) (fun _ _ => trivial) (fun _ _ w _ => (by as_aux_lemma => (have hcall := (fun w => rtweaksecret_any x t hx ht w) w ; rw [ec] at hcall; exact hcall)))
  · exact Obl.brings (o_run 3 [] [] (fun _ _ => []) (fun _ _ => by kernel_rfl)) (fun _ _ => trivial)
  · exact Obl.brings (o_run 4 [] [] (fun _ _ => []) (fun _ _ => by kernel_rfl)) (fun _ _ => trivial)
  · exact Obl.brings (o_run 5 [] [] (fun _ _ => []) (fun _ _ => by kernel_rfl)) (fun _ _ => trivial)
  · exact Obl.brings (o_run 6 [] [] (fun _ _ => []) (fun _ _ => by kernel_rfl)) (fun _ _ => trivial)
  · exact Obl.brings (o_run 7 [54] [] (fun ρ _ => [nb ρ 6, nb ρ 6, nb ρ 6, nb ρ 6]) (fun _ _ => by kernel_rfl)) (fun _ _ => trivial)
  · exact Obl.brings (o_run 8 [] [] (fun _ _ => []) (fun _ _ => by kernel_rfl)) (fun _ _ => trivial)
theorem signTweaksw_any_r7 (x : Nat) (p : Nat) (t : Nat) (a : Nat) (c : Nat) (ha : a < M) (hc : c < M) (ρ1 : Nat → Orc) (ρ3 : Nat → Orc) (ρ4 : Nat → Orc) (ρ5 : Nat → Orc) (ρ6 : Nat → Orc) (w0 : World) (F : World → Prop) : Reg Tryd.prog 7 (regOps Tryd.f8 7) false 101 [(3, (pt (nb ρ1 0))), (5, (pt (nb ρ1 2))), (6, (.bool false)), (7, (pt (nb ρ3 6))), (8, (.int .i64 (twE p t))), (9, (pt (nb ρ4 6))), (10, (.int .i64 (twE p t))), (11, (pt (nb ρ5 6))), (12, (.int .i64 (tsE x t))), (13, (pt (nb ρ6 6))), (14, (.int .i64 (tsE x t)))] w0 [(nb ρ1 0, (.cells (cU x) 24 (0, 0))), (nb ρ1 1, (.cells (cU p) 24 (0, 0))), (nb ρ1 2, (.cells (hB t) 26 (0, 0))), (nb ρ3 6, (.cells (cU a) 24 (0, 0))), (nb ρ4 6, (.cells (cU a) 24 (0, 0))), (nb ρ5 6, (.cells (cU c) 24 (0, 0))), (nb ρ6 6, (.cells (cU c) 24 (0, 0)))] F
    (fun _ => [(3, (pt (nb ρ1 0))), (5, (pt (nb ρ1 2))), (6, (.bool false)), (11, (pt (nb ρ5 6))), (12, (.int .i64 (tsE x t))), (64, (.bool false))])
    (fun _ => [(nb ρ1 0, (.cells (cU x) 24 (0, 0))), (nb ρ1 1, (.cells (cU p) 24 (0, 0))), (nb ρ1 2, (.cells (hB t) 26 (0, 0))), (nb ρ3 6, (.cells (cU a) 24 (0, 0))), (nb ρ4 6, (.cells (cU a) 24 (0, 0))), (nb ρ5 6, (.cells (cU c) 24 (0, 0))), (nb ρ6 6, (.cells (cU c) 24 (0, 0)))]) := by
  refine reg_seq [0, 1, 3, 7, 15, 31, 63, 127, 255, 511, 1023, 2047, 4095, 8191, 16383, 32767, 65535, 131071] [3, 5, 6, 11, 12, 64] 18
    (fun _ ι => ([(U a), (U a), (.bool false), (.bool false), (.int .i64 (twE p t)), (.int .i64 (twE p t)), (.bool false), (.bool false), (.bool false), (U c), (U c), (.bool false), (.bool false), (.bool false), (.int .i64 (tsE x t)), (.int .i64 (tsE x t)), (.bool false), (.bool false)] : List Value).getD ι undef)
    (fun _ ι => ([{}, {}, {}, {}, {}, {}, {}, {}, {}, {}, {}, {}, {}, {}, {}, {}, {}, {}] : List Eff).getD ι {})
    (by kernel_rfl) (by kernel_rfl) (fun _ => by kernel_rfl) (fun _ => by kernel_rfl) ⟨⟨⟨⟨⟨⟨⟨⟨⟨⟨⟨⟨⟨⟨⟨⟨⟨⟨trivial, ?_⟩, ?_⟩, ?_⟩, ?_⟩, ?_⟩, ?_⟩, ?_⟩, ?_⟩, ?_⟩, ?_⟩, ?_⟩, ?_⟩, ?_⟩, ?_⟩, ?_⟩, ?_⟩, ?_⟩, ?_⟩
  · exact o_run 0 [3] [] (fun _ _ => [nb ρ3 6, nb ρ3 6, nb ρ3 6, nb ρ3 6]) (fun _ _ => by kernel_rfl)
  · exact o_run 1 [4] [] (fun _ _ => [nb ρ4 6, nb ρ4 6, nb ρ4 6, nb ρ4 6]) (fun _ _ => by kernel_rfl)
  · exact o_bin 2 .neq 24 (fun _ => (U a)) (fun _ => (U a)) (fun _ => (.bool false)) (fun _ => by kernel_rfl) (fun _ _ _ _ => by kernel_rfl) (fun _ _ => neqU_same a ha _)
  · exact o_run 3 [] [] (fun _ _ => []) (fun _ _ => by kernel_rfl)
  · exact o_run 4 [] [] (fun _ _ => []) (fun _ _ => by kernel_rfl)
  · exact o_run 5 [] [] (fun _ _ => []) (fun _ _ => by kernel_rfl)
  · exact o_as 6 (fun _ => (.bool ((twE p t) != (twE p t)))) (fun _ => (.bool false)) (fun _ _ => by kernel_rfl) (fun _ => congrArg Value.bool (bne_self_eq_false _))
  · exact o_run 7 [] [] (fun _ _ => []) (fun _ _ => by kernel_rfl)
  · exact o_run 8 [] [] (fun _ _ => []) (fun _ _ => by kernel_rfl)
  · exact o_run 9 [5] [] (fun _ _ => [nb ρ5 6, nb ρ5 6, nb ρ5 6, nb ρ5 6]) (fun _ _ => by kernel_rfl)
  · exact o_run 10 [6] [] (fun _ _ => [nb ρ6 6, nb ρ6 6, nb ρ6 6, nb ρ6 6]) (fun _ _ => by kernel_rfl)
  · exact o_bin 11 .neq 24 (fun _ => (U c)) (fun _ => (U c)) (fun _ => (.bool false)) (fun _ => by kernel_rfl) (fun _ _ _ _ => by kernel_rfl) (fun _ _ => neqU_same c hc _)
  · exact o_run 12 [] [] (fun _ _ => []) (fun _ _ => by kernel_rfl)
  · exact o_run 13 [] [] (fun _ _ => []) (fun _ _ => by kernel_rfl)
  · exact o_run 14 [] [] (fun _ _ => []) (fun _ _ => by kernel_rfl)
  · exact o_run 15 [] [] (fun _ _ => []) (fun _ _ => by kernel_rfl)
  · exact o_as 16 (fun _ => (.bool ((tsE x t) != (tsE x t)))) (fun _ => (.bool false)) (fun _ _ => by kernel_rfl) (fun _ => congrArg Value.bool (bne_self_eq_false _))
  · exact o_run 17 [] [] (fun _ _ => []) (fun _ _ => by kernel_rfl)
theorem signTweaksw_any_r8 (x : Nat) (p : Nat) (t : Nat) (a : Nat) (c : Nat) (q : Nat) (hx : x < M) (eq : pubV x = q) (ρ1 : Nat → Orc) (ρ3 : Nat → Orc) (ρ4 : Nat → Orc) (ρ5 : Nat → Orc) (ρ6 : Nat → Orc) (w0 : World) : RegF Tryd.prog 9 (regOps Tryd.f8 9) false 101 [(3, (pt (nb ρ1 0))), (5, (pt (nb ρ1 2))), (6, (.bool false)), (11, (pt (nb ρ5 6))), (12, (.int .i64 (tsE x t))), (64, (.bool false))] w0 [(nb ρ1 0, (.cells (cU x) 24 (0, 0))), (nb ρ1 1, (.cells (cU p) 24 (0, 0))), (nb ρ1 2, (.cells (hB t) 26 (0, 0))), (nb ρ3 6, (.cells (cU a) 24 (0, 0))), (nb ρ4 6, (.cells (cU a) 24 (0, 0))), (nb ρ5 6, (.cells (cU c) 24 (0, 0))), (nb ρ6 6, (.cells (cU c) 24 (0, 0)))] (fun w => Kb w 1 (rowK .u32 64 kN) ∧ Kb w 0 #[(.int .u32 1779033703), (.int .u32 3144134277), (.int .u32 1013904242), (.int .u32 2773480762), (.int .u32 1359893119), (.int .u32 2600822924), (.int .u32 528734635), (.int .u32 1541459225)] ∧ True)
    (fun ρ => [(5, (pt (nb ρ1 2))), (6, (.bool false)), (11, (pt (nb ρ5 6))), (12, (.int .i64 (tsE x t))), (15, (pt (nb ρ 5))), (16, (.int .i64 (pubE x)))])
    (fun ρ => [(nb ρ1 0, (.cells (cU x) 24 (0, 0))), (nb ρ1 1, (.cells (cU p) 24 (0, 0))), (nb ρ1 2, (.cells (hB t) 26 (0, 0))), (nb ρ3 6, (.cells (cU a) 24 (0, 0))), (nb ρ4 6, (.cells (cU a) 24 (0, 0))), (nb ρ5 6, (.cells (cU c) 24 (0, 0))), (nb ρ6 6, (.cells (cU c) 24 (0, 0))), (nb ρ 5, (.cells (cU q) 24 (0, 0)))]) (fun _ => (fun w => Kb w 1 (rowK .u32 64 kN) ∧ Kb w 0 #[(.int .u32 1779033703), (.int .u32 3144134277), (.int .u32 1013904242), (.int .u32 2773480762), (.int .u32 1359893119), (.int .u32 2600822924), (.int .u32 528734635), (.int .u32 1541459225)] ∧ True)) := by
  refine reg_seq_f [0, 1, 3, 7, 15, 31, 63, 127] [5, 6, 11, 12, 15, 16] 8
    (fun ρ ι => ([(U x), (.tuple #[(U q), (.int .i64 (pubE x))]), (.tuple #[(U q), (.int .i64 (pubE x))]), (U q), (.int .i64 (pubE x)), (pt (nb ρ 5)), undef, (.int .i64 (pubE x))] : List Value).getD ι undef)
    (fun ρ ι => ([{}, {}, {}, {}, {}, { news := [(nb ρ 5, (.cells (cU 0) 24 (0, 0)))] }, { puts := [(47, (.cells (cU q) 24 (0, 0)))] }, {}] : List Eff).getD ι {})
    (fun _ ι => ([(fun _ => True), (fun _ => True), (fun _ => True), (fun _ => True), (fun _ => True), (fun _ => True), (fun _ => True), (fun _ => True)] : List (World → Prop)).getD ι (fun _ => True))
    (by kernel_rfl) (by kernel_rfl) (fun _ => by kernel_rfl) (fun _ => by kernel_rfl) (fun _ _ hF _ => ⟨hF.1, hF.2.1, trivial⟩) ⟨⟨⟨⟨⟨⟨⟨⟨trivial, ?_⟩, ?_⟩, ?_⟩, ?_⟩, ?_⟩, ?_⟩, ?_⟩, ?_⟩
  · exact Obl.brings (o_run 0 [0] [] (fun _ _ => [nb ρ1 0, nb ρ1 0, nb ρ1 0, nb ρ1 0]) (fun _ _ => by kernel_rfl)) (fun _ _ => trivial)
  · exact o_callP 1 11 (fun _ => #[(U x)]) (fun _ => (.tuple #[(U q), (.int .i64 (pubE x))])) (fun _ _ => (by kernel_rfl)) (fun _ => (by kernel_rfl)) (fun _ _ => (by kernel_rfl)) (fun _ _ => trivial) (fun _ _ w _ => (by as_aux_lemma => (have hcall := (fun w => rpublic_any x hx w) w ; rw [eq] at hcall; exact hcall)))
  · exact Obl.brings (o_run 2 [] [] (fun _ _ => []) (fun _ _ => by kernel_rfl)) (fun _ _ => trivial)
  · exact Obl.brings (o_run 3 [] [] (fun _ _ => []) (fun _ _ => by kernel_rfl)) (fun _ _ => trivial)
  · exact Obl.brings (o_run 4 [] [] (fun _ _ => []) (fun _ _ => by kernel_rfl)) (fun _ _ => trivial)
  · exact Obl.brings (o_run 5 [] [] (fun _ _ => []) (fun _ _ => by kernel_rfl)) (fun _ _ => trivial)
  · exact Obl.brings (o_run 6 [47] [] (fun ρ _ => [nb ρ 5, nb ρ 5, nb ρ 5, nb ρ 5]) (fun _ _ => by kernel_rfl)) (fun _ _ => trivial)
  · exact Obl.brings (o_run 7 [] [] (fun _ _ => []) (fun _ _ => by kernel_rfl)) (fun _ _ => trivial)
theorem signTweaksw_any_r9 (x : Nat) (p : Nat) (t : Nat) (a : Nat) (c : Nat) (q : Nat) (ρ1 : Nat → Orc) (ρ3 : Nat → Orc) (ρ4 : Nat → Orc) (ρ5 : Nat → Orc) (ρ6 : Nat → Orc) (ρ8 : Nat → Orc) (w0 : World) (F : World → Prop) : Reg Tryd.prog 10 (regOps Tryd.f8 10) false 101 [(5, (pt (nb ρ1 2))), (6, (.bool false)), (11, (pt (nb ρ5 6))), (12, (.int .i64 (tsE x t))), (15, (pt (nb ρ8 5))), (16, (.int .i64 (pubE x)))] w0 [(nb ρ1 0, (.cells (cU x) 24 (0, 0))), (nb ρ1 1, (.cells (cU p) 24 (0, 0))), (nb ρ1 2, (.cells (hB t) 26 (0, 0))), (nb ρ3 6, (.cells (cU a) 24 (0, 0))), (nb ρ4 6, (.cells (cU a) 24 (0, 0))), (nb ρ5 6, (.cells (cU c) 24 (0, 0))), (nb ρ6 6, (.cells (cU c) 24 (0, 0))), (nb ρ8 5, (.cells (cU q) 24 (0, 0)))] F
    (fun _ => [(5, (pt (nb ρ1 2))), (6, (.bool false)), (11, (pt (nb ρ5 6))), (12, (.int .i64 (tsE x t))), (15, (pt (nb ρ8 5))), (71, (.bool ((pubE x) != 0)))])
    (fun _ => [(nb ρ1 0, (.cells (cU x) 24 (0, 0))), (nb ρ1 1, (.cells (cU p) 24 (0, 0))), (nb ρ1 2, (.cells (hB t) 26 (0, 0))), (nb ρ3 6, (.cells (cU a) 24 (0, 0))), (nb ρ4 6, (.cells (cU a) 24 (0, 0))), (nb ρ5 6, (.cells (cU c) 24 (0, 0))), (nb ρ6 6, (.cells (cU c) 24 (0, 0))), (nb ρ8 5, (.cells (cU q) 24 (0, 0)))]) := by
  refine reg_seq [0, 1] [5, 6, 11, 12, 15, 71] 2
    (fun _ ι => ([(.int .i64 (pubE x)), (.bool ((pubE x) != 0))] : List Value).getD ι undef)
    (fun _ ι => ([{}, {}] : List Eff).getD ι {})
    (by kernel_rfl) (by kernel_rfl) (fun _ => by kernel_rfl) (fun _ => by kernel_rfl) ⟨⟨trivial, ?_⟩, ?_⟩
  · exact o_run 0 [] [] (fun _ _ => []) (fun _ _ => by kernel_rfl)
  · exact o_run 1 [] [] (fun _ _ => []) (fun _ _ => by kernel_rfl)
theorem signTweaksw_any_r10 (x : Nat) (p : Nat) (t : Nat) (a : Nat) (c : Nat) (q : Nat) (hb1 : ((pubE x) != 0) = true) (ρ1 : Nat → Orc) (ρ3 : Nat → Orc) (ρ4 : Nat → Orc) (ρ5 : Nat → Orc) (ρ6 : Nat → Orc) (ρ8 : Nat → Orc) (w0 : World) (F : World → Prop) : Reg Tryd.prog 11 (regOps Tryd.f8 11) false 101 [(5, (pt (nb ρ1 2))), (6, (.bool false)), (11, (pt (nb ρ5 6))), (12, (.int .i64 (tsE x t))), (15, (pt (nb ρ8 5))), (71, (.bool true))] w0 [(nb ρ1 0, (.cells (cU x) 24 (0, 0))), (nb ρ1 1, (.cells (cU p) 24 (0, 0))), (nb ρ1 2, (.cells (hB t) 26 (0, 0))), (nb ρ3 6, (.cells (cU a) 24 (0, 0))), (nb ρ4 6, (.cells (cU a) 24 (0, 0))), (nb ρ5 6, (.cells (cU c) 24 (0, 0))), (nb ρ6 6, (.cells (cU c) 24 (0, 0))), (nb ρ8 5, (.cells (cU q) 24 (0, 0)))] F
    (fun _ => [(5, (pt (nb ρ1 2))), (6, (.bool true)), (11, (pt (nb ρ5 6))), (12, (.int .i64 (tsE x t))), (15, (pt (nb ρ8 5)))])
    (fun _ => [(nb ρ1 0, (.cells (cU x) 24 (0, 0))), (nb ρ1 1, (.cells (cU p) 24 (0, 0))), (nb ρ1 2, (.cells (hB t) 26 (0, 0))), (nb ρ3 6, (.cells (cU a) 24 (0, 0))), (nb ρ4 6, (.cells (cU a) 24 (0, 0))), (nb ρ5 6, (.cells (cU c) 24 (0, 0))), (nb ρ6 6, (.cells (cU c) 24 (0, 0))), (nb ρ8 5, (.cells (cU q) 24 (0, 0)))]) := by
  refine reg_seq [0, 1, 3] [5, 6, 11, 12, 15] 3
    (fun _ ι => ([(.int .i64 (tsE x t)), (.bool true), (.bool true)] : List Value).getD ι undef)
    (fun _ ι => ([{}, {}, {}] : List Eff).getD ι {})
    (by kernel_rfl) (by kernel_rfl) (fun _ => by kernel_rfl) (fun _ => by kernel_rfl) ⟨⟨⟨trivial, ?_⟩, ?_⟩, ?_⟩
  · exact o_run 0 [] [] (fun _ _ => []) (fun _ _ => by kernel_rfl)
  · exact o_as 1 (fun _ => (.bool ((tsE x t) == 60))) (fun _ => (.bool true)) (fun _ _ => by kernel_rfl) (fun _ => congrArg Value.bool (no_key hb1))
  · exact o_run 2 [] [] (fun _ _ => []) (fun _ _ => by kernel_rfl)
theorem signTweaksw_any_r11 (x : Nat) (p : Nat) (t : Nat) (a : Nat) (c : Nat) (q : Nat) (y : Nat) (ht : t < M) (hq : q < M) (ey : twV q t = y) (ρ1 : Nat → Orc) (ρ3 : Nat → Orc) (ρ4 : Nat → Orc) (ρ5 : Nat → Orc) (ρ6 : Nat → Orc) (ρ8 : Nat → Orc) (w0 : World) : RegF Tryd.prog 12 (regOps Tryd.f8 12) false 101 [(5, (pt (nb ρ1 2))), (6, (.bool false)), (11, (pt (nb ρ5 6))), (12, (.int .i64 (tsE x t))), (15, (pt (nb ρ8 5))), (71, (.bool false))] w0 [(nb ρ1 0, (.cells (cU x) 24 (0, 0))), (nb ρ1 1, (.cells (cU p) 24 (0, 0))), (nb ρ1 2, (.cells (hB t) 26 (0, 0))), (nb ρ3 6, (.cells (cU a) 24 (0, 0))), (nb ρ4 6, (.cells (cU a) 24 (0, 0))), (nb ρ5 6, (.cells (cU c) 24 (0, 0))), (nb ρ6 6, (.cells (cU c) 24 (0, 0))), (nb ρ8 5, (.cells (cU q) 24 (0, 0)))] (fun w => Kb w 1 (rowK .u32 64 kN) ∧ Kb w 0 #[(.int .u32 1779033703), (.int .u32 3144134277), (.int .u32 1013904242), (.int .u32 2773480762), (.int .u32 1359893119), (.int .u32 2600822924), (.int .u32 528734635), (.int .u32 1541459225)] ∧ True)
    (fun ρ => [(6, (.bool false)), (11, (pt (nb ρ5 6))), (12, (.int .i64 (tsE x t))), (17, (pt (nb ρ 6))), (18, (.int .i64 (twE q t)))])
    (fun ρ => [(nb ρ1 0, (.cells (cU x) 24 (0, 0))), (nb ρ1 1, (.cells (cU p) 24 (0, 0))), (nb ρ1 2, (.cells (hB t) 26 (0, 0))), (nb ρ3 6, (.cells (cU a) 24 (0, 0))), (nb ρ4 6, (.cells (cU a) 24 (0, 0))), (nb ρ5 6, (.cells (cU c) 24 (0, 0))), (nb ρ6 6, (.cells (cU c) 24 (0, 0))), (nb ρ8 5, (.cells (cU q) 24 (0, 0))), (nb ρ 6, (.cells (cU y) 24 (0, 0)))]) (fun _ => (fun w => Kb w 1 (rowK .u32 64 kN) ∧ Kb w 0 #[(.int .u32 1779033703), (.int .u32 3144134277), (.int .u32 1013904242), (.int .u32 2773480762), (.int .u32 1359893119), (.int .u32 2600822924), (.int .u32 528734635), (.int .u32 1541459225)] ∧ True)) := by
  refine reg_seq_f [0, 1, 3, 7, 15, 31, 63, 127, 255] [6, 11, 12, 17, 18] 9
    (fun ρ ι => ([(U q), (.agg (hB t)), (.tuple #[(U y), (.int .i64 (twE q t))]), (.tuple #[(U y), (.int .i64 (twE q t))]), (U y), (.int .i64 (twE q t)), (pt (nb ρ 6)), undef, (.int .i64 (twE q t))] : List Value).getD ι undef)
    (fun ρ ι => ([{}, {}, {}, {}, {}, {}, { news := [(nb ρ 6, (.cells (cU 0) 24 (0, 0)))] }, { puts := [(56, (.cells (cU y) 24 (0, 0)))] }, {}] : List Eff).getD ι {})
    (fun _ ι => ([(fun _ => True), (fun _ => True), (fun _ => True), (fun _ => True), (fun _ => True), (fun _ => True), (fun _ => True), (fun _ => True), (fun _ => True)] : List (World → Prop)).getD ι (fun _ => True))
    (by kernel_rfl) (by kernel_rfl) (fun _ => by kernel_rfl) (fun _ => by kernel_rfl) (fun _ _ hF _ => ⟨hF.1, hF.2.1, trivial⟩) ⟨⟨⟨⟨⟨⟨⟨⟨⟨trivial, ?_⟩, ?_⟩, ?_⟩, ?_⟩, ?_⟩, ?_⟩, ?_⟩, ?_⟩, ?_⟩
  · exact Obl.brings (o_run 0 [7] [] (fun _ _ => [nb ρ8 5, nb ρ8 5, nb ρ8 5, nb ρ8 5]) (fun _ _ => by kernel_rfl)) (fun _ _ => trivial)
  · exact Obl.brings (o_run 1 [2] [] (fun _ _ => [nb ρ1 2, nb ρ1 2, nb ρ1 2, nb ρ1 2, nb ρ1 2, nb ρ1 2, nb ρ1 2, nb ρ1 2, nb ρ1 2, nb ρ1 2, nb ρ1 2, nb ρ1 2, nb ρ1 2, nb ρ1 2, nb ρ1 2, nb ρ1 2, nb ρ1 2, nb ρ1 2, nb ρ1 2, nb ρ1 2, nb ρ1 2, nb ρ1 2, nb ρ1 2, nb ρ1 2, nb ρ1 2, nb ρ1 2, nb ρ1 2, nb ρ1 2, nb ρ1 2, nb ρ1 2, nb ρ1 2, nb ρ1 2]) (fun _ _ => by kernel_rfl)) (fun _ _ => trivial)
  · exact o_callP 2 31 (fun _ => #[(U q), (.agg (hB t))]) (fun _ => (.tuple #[(U y), (.int .i64 (twE q t))])) (fun _ _ => (by kernel_rfl)) (fun _ => (by kernel_rfl)) (fun _ _ => (by kernel_rfl)) (fun _ _ => trivial) (fun _ _ w _ => (by as_aux_lemma => (have hcall := (fun w => tweak_any q t hq ht w) w ; rw [ey] at hcall; exact hcall)))
  · exact Obl.brings (o_run 3 [] [] (fun _ _ => []) (fun _ _ => by kernel_rfl)) (fun _ _ => trivial)
  · exact Obl.brings (o_run 4 [] [] (fun _ _ => []) (fun _ _ => by kernel_rfl)) (fun _ _ => trivial)
  · exact Obl.brings (o_run 5 [] [] (fun _ _ => []) (fun _ _ => by kernel_rfl)) (fun _ _ => trivial)
  · exact Obl.brings (o_run 6 [] [] (fun _ _ => []) (fun _ _ => by kernel_rfl)) (fun _ _ => trivial)
  · exact Obl.brings (o_run 7 [56] [] (fun ρ _ => [nb ρ 6, nb ρ 6, nb ρ 6, nb ρ 6]) (fun _ _ => by kernel_rfl)) (fun _ _ => trivial)
  · exact Obl.brings (o_run 8 [] [] (fun _ _ => []) (fun _ _ => by kernel_rfl)) (fun _ _ => trivial)
theorem signTweaksw_any_r12 (x : Nat) (p : Nat) (t : Nat) (a : Nat) (c : Nat) (q : Nat) (y : Nat) (ρ1 : Nat → Orc) (ρ3 : Nat → Orc) (ρ4 : Nat → Orc) (ρ5 : Nat → Orc) (ρ6 : Nat → Orc) (ρ8 : Nat → Orc) (ρ11 : Nat → Orc) (w0 : World) (F : World → Prop) : Reg Tryd.prog 13 (regOps Tryd.f8 13) false 101 [(6, (.bool false)), (11, (pt (nb ρ5 6))), (12, (.int .i64 (tsE x t))), (17, (pt (nb ρ11 6))), (18, (.int .i64 (twE q t)))] w0 [(nb ρ1 0, (.cells (cU x) 24 (0, 0))), (nb ρ1 1, (.cells (cU p) 24 (0, 0))), (nb ρ1 2, (.cells (hB t) 26 (0, 0))), (nb ρ3 6, (.cells (cU a) 24 (0, 0))), (nb ρ4 6, (.cells (cU a) 24 (0, 0))), (nb ρ5 6, (.cells (cU c) 24 (0, 0))), (nb ρ6 6, (.cells (cU c) 24 (0, 0))), (nb ρ8 5, (.cells (cU q) 24 (0, 0))), (nb ρ11 6, (.cells (cU y) 24 (0, 0)))] F
    (fun _ => [(6, (.bool false)), (11, (pt (nb ρ5 6))), (12, (.int .i64 (tsE x t))), (17, (pt (nb ρ11 6))), (18, (.int .i64 (twE q t))), (81, (.bool ((tsE x t) != 0)))])
    (fun _ => [(nb ρ1 0, (.cells (cU x) 24 (0, 0))), (nb ρ1 1, (.cells (cU p) 24 (0, 0))), (nb ρ1 2, (.cells (hB t) 26 (0, 0))), (nb ρ3 6, (.cells (cU a) 24 (0, 0))), (nb ρ4 6, (.cells (cU a) 24 (0, 0))), (nb ρ5 6, (.cells (cU c) 24 (0, 0))), (nb ρ6 6, (.cells (cU c) 24 (0, 0))), (nb ρ8 5, (.cells (cU q) 24 (0, 0))), (nb ρ11 6, (.cells (cU y) 24 (0, 0)))]) := by
  refine reg_seq [0, 1] [6, 11, 12, 17, 18, 81] 2
    (fun _ ι => ([(.int .i64 (tsE x t)), (.bool ((tsE x t) != 0))] : List Value).getD ι undef)
    (fun _ ι => ([{}, {}] : List Eff).getD ι {})
    (by kernel_rfl) (by kernel_rfl) (fun _ => by kernel_rfl) (fun _ => by kernel_rfl) ⟨⟨trivial, ?_⟩, ?_⟩
  · exact o_run 0 [] [] (fun _ _ => []) (fun _ _ => by kernel_rfl)
  · exact o_run 1 [] [] (fun _ _ => []) (fun _ _ => by kernel_rfl)
theorem signTweaksw_any_r13 (x : Nat) (p : Nat) (t : Nat) (a : Nat) (c : Nat) (q : Nat) (y : Nat) (eq : pubV x = q) (hb1 : ((pubE x) != 0) = false) (hb2 : ((tsE x t) != 0) = true) (ρ1 : Nat → Orc) (ρ3 : Nat → Orc) (ρ4 : Nat → Orc) (ρ5 : Nat → Orc) (ρ6 : Nat → Orc) (ρ8 : Nat → Orc) (ρ11 : Nat → Orc) (w0 : World) (F : World → Prop) : Reg Tryd.prog 14 (regOps Tryd.f8 14) false 101 [(6, (.bool false)), (11, (pt (nb ρ5 6))), (12, (.int .i64 (tsE x t))), (17, (pt (nb ρ11 6))), (18, (.int .i64 (twE q t))), (81, (.bool true))] w0 [(nb ρ1 0, (.cells (cU x) 24 (0, 0))), (nb ρ1 1, (.cells (cU p) 24 (0, 0))), (nb ρ1 2, (.cells (hB t) 26 (0, 0))), (nb ρ3 6, (.cells (cU a) 24 (0, 0))), (nb ρ4 6, (.cells (cU a) 24 (0, 0))), (nb ρ5 6, (.cells (cU c) 24 (0, 0))), (nb ρ6 6, (.cells (cU c) 24 (0, 0))), (nb ρ8 5, (.cells (cU q) 24 (0, 0))), (nb ρ11 6, (.cells (cU y) 24 (0, 0)))] F
    (fun _ => [(6, (.bool true)), (11, (pt (nb ρ5 6))), (17, (pt (nb ρ11 6))), (18, (.int .i64 (twE q t)))])
    (fun _ => [(nb ρ1 0, (.cells (cU x) 24 (0, 0))), (nb ρ1 1, (.cells (cU p) 24 (0, 0))), (nb ρ1 2, (.cells (hB t) 26 (0, 0))), (nb ρ3 6, (.cells (cU a) 24 (0, 0))), (nb ρ4 6, (.cells (cU a) 24 (0, 0))), (nb ρ5 6, (.cells (cU c) 24 (0, 0))), (nb ρ6 6, (.cells (cU c) 24 (0, 0))), (nb ρ8 5, (.cells (cU q) 24 (0, 0))), (nb ρ11 6, (.cells (cU y) 24 (0, 0)))]) := by
  refine reg_seq [0, 1, 3, 7] [6, 11, 17, 18] 4
    (fun _ ι => ([(.int .i64 (twE q t)), (.int .i64 (tsE x t)), (.bool true), (.bool true)] : List Value).getD ι undef)
    (fun _ ι => ([{}, {}, {}, {}] : List Eff).getD ι {})
    (by kernel_rfl) (by kernel_rfl) (fun _ => by kernel_rfl) (fun _ => by kernel_rfl) ⟨⟨⟨⟨trivial, ?_⟩, ?_⟩, ?_⟩, ?_⟩
  · exact o_run 0 [] [] (fun _ _ => []) (fun _ _ => by kernel_rfl)
  · exact o_run 1 [] [] (fun _ _ => []) (fun _ _ => by kernel_rfl)
  · exact o_as 2 (fun _ => (.bool ((twE q t) == (tsE x t)))) (fun _ => (.bool true)) (fun _ _ => by kernel_rfl) (fun _ => congrArg Value.bool (show ((twE q t) == (tsE x t)) = true by rw [← eq]; exact beqI (both0 (pubE_ok hb1) (tsE_no (pubE_ok hb1) hb2))))
  · exact o_run 3 [] [] (fun _ _ => []) (fun _ _ => by kernel_rfl)
theorem signTweaksw_any_r14 (x : Nat) (p : Nat) (t : Nat) (a : Nat) (c : Nat) (q : Nat) (y : Nat) (z : Nat) (hc : c < M) (ez : pubV c = z) (ρ1 : Nat → Orc) (ρ3 : Nat → Orc) (ρ4 : Nat → Orc) (ρ5 : Nat → Orc) (ρ6 : Nat → Orc) (ρ8 : Nat → Orc) (ρ11 : Nat → Orc) (w0 : World) : RegF Tryd.prog 15 (regOps Tryd.f8 15) false 101 [(6, (.bool false)), (11, (pt (nb ρ5 6))), (12, (.int .i64 (tsE x t))), (17, (pt (nb ρ11 6))), (18, (.int .i64 (twE q t))), (81, (.bool false))] w0 [(nb ρ1 0, (.cells (cU x) 24 (0, 0))), (nb ρ1 1, (.cells (cU p) 24 (0, 0))), (nb ρ1 2, (.cells (hB t) 26 (0, 0))), (nb ρ3 6, (.cells (cU a) 24 (0, 0))), (nb ρ4 6, (.cells (cU a) 24 (0, 0))), (nb ρ5 6, (.cells (cU c) 24 (0, 0))), (nb ρ6 6, (.cells (cU c) 24 (0, 0))), (nb ρ8 5, (.cells (cU q) 24 (0, 0))), (nb ρ11 6, (.cells (cU y) 24 (0, 0)))] (fun w => Kb w 1 (rowK .u32 64 kN) ∧ Kb w 0 #[(.int .u32 1779033703), (.int .u32 3144134277), (.int .u32 1013904242), (.int .u32 2773480762), (.int .u32 1359893119), (.int .u32 2600822924), (.int .u32 528734635), (.int .u32 1541459225)] ∧ True)
    (fun ρ => [(6, (.bool false)), (17, (pt (nb ρ11 6))), (18, (.int .i64 (twE q t))), (19, (pt (nb ρ 5))), (20, (.int .i64 (pubE c)))])
    (fun ρ => [(nb ρ1 0, (.cells (cU x) 24 (0, 0))), (nb ρ1 1, (.cells (cU p) 24 (0, 0))), (nb ρ1 2, (.cells (hB t) 26 (0, 0))), (nb ρ3 6, (.cells (cU a) 24 (0, 0))), (nb ρ4 6, (.cells (cU a) 24 (0, 0))), (nb ρ5 6, (.cells (cU c) 24 (0, 0))), (nb ρ6 6, (.cells (cU c) 24 (0, 0))), (nb ρ8 5, (.cells (cU q) 24 (0, 0))), (nb ρ11 6, (.cells (cU y) 24 (0, 0))), (nb ρ 5, (.cells (cU z) 24 (0, 0)))]) (fun _ => (fun w => Kb w 1 (rowK .u32 64 kN) ∧ Kb w 0 #[(.int .u32 1779033703), (.int .u32 3144134277), (.int .u32 1013904242), (.int .u32 2773480762), (.int .u32 1359893119), (.int .u32 2600822924), (.int .u32 528734635), (.int .u32 1541459225)] ∧ True)) := by
  refine reg_seq_f [0, 1, 3, 7, 15, 31, 63, 127] [6, 17, 18, 19, 20] 8
    (fun ρ ι => ([(U c), (.tuple #[(U z), (.int .i64 (pubE c))]), (.tuple #[(U z), (.int .i64 (pubE c))]), (U z), (.int .i64 (pubE c)), (pt (nb ρ 5)), undef, (.int .i64 (pubE c))] : List Value).getD ι undef)
    (fun ρ ι => ([{}, {}, {}, {}, {}, { news := [(nb ρ 5, (.cells (cU 0) 24 (0, 0)))] }, { puts := [(49, (.cells (cU z) 24 (0, 0)))] }, {}] : List Eff).getD ι {})
    (fun _ ι => ([(fun _ => True), (fun _ => True), (fun _ => True), (fun _ => True), (fun _ => True), (fun _ => True), (fun _ => True), (fun _ => True)] : List (World → Prop)).getD ι (fun _ => True))
    (by kernel_rfl) (by kernel_rfl) (fun _ => by kernel_rfl) (fun _ => by kernel_rfl) (fun _ _ hF _ => ⟨hF.1, hF.2.1, trivial⟩) ⟨⟨⟨⟨⟨⟨⟨⟨trivial, ?_⟩, ?_⟩, ?_⟩, ?_⟩, ?_⟩, ?_⟩, ?_⟩, ?_⟩
  · exact Obl.brings (o_run 0 [5] [] (fun _ _ => [nb ρ5 6, nb ρ5 6, nb ρ5 6, nb ρ5 6]) (fun _ _ => by kernel_rfl)) (fun _ _ => trivial)
  · exact o_callP 1 11 (fun _ => #[(U c)]) (fun _ => (.tuple #[(U z), (.int .i64 (pubE c))])) (fun _ _ => (by kernel_rfl)) (fun _ => (by kernel_rfl)) (fun _ _ => (by kernel_rfl)) (fun _ _ => trivial) (fun _ _ w _ => (by as_aux_lemma => (have hcall := (fun w => rpublic_any c hc w) w ; rw [ez] at hcall; exact hcall)))
  · exact Obl.brings (o_run 2 [] [] (fun _ _ => []) (fun _ _ => by kernel_rfl)) (fun _ _ => trivial)
  · exact Obl.brings (o_run 3 [] [] (fun _ _ => []) (fun _ _ => by kernel_rfl)) (fun _ _ => trivial)
  · exact Obl.brings (o_run 4 [] [] (fun _ _ => []) (fun _ _ => by kernel_rfl)) (fun _ _ => trivial)
  · exact Obl.brings (o_run 5 [] [] (fun _ _ => []) (fun _ _ => by kernel_rfl)) (fun _ _ => trivial)
  · exact Obl.brings (o_run 6 [49] [] (fun ρ _ => [nb ρ 5, nb ρ 5, nb ρ 5, nb ρ 5]) (fun _ _ => by kernel_rfl)) (fun _ _ => trivial)
  · exact Obl.brings (o_run 7 [] [] (fun _ _ => []) (fun _ _ => by kernel_rfl)) (fun _ _ => trivial)
theorem signTweaksw_any_r15 (x : Nat) (p : Nat) (t : Nat) (a : Nat) (c : Nat) (q : Nat) (y : Nat) (z : Nat) (hy : y < M) (hz : z < M) (ec : tsV x t = c) (eq : pubV x = q) (ey : twV q t = y) (ez : pubV c = z) (hb2 : ((tsE x t) != 0) = false) (ρ1 : Nat → Orc) (ρ3 : Nat → Orc) (ρ4 : Nat → Orc) (ρ5 : Nat → Orc) (ρ6 : Nat → Orc) (ρ8 : Nat → Orc) (ρ11 : Nat → Orc) (ρ14 : Nat → Orc) (w0 : World) (F : World → Prop) : Reg Tryd.prog 16 (regOps Tryd.f8 16) false 101 [(6, (.bool false)), (17, (pt (nb ρ11 6))), (18, (.int .i64 (twE q t))), (19, (pt (nb ρ14 5))), (20, (.int .i64 (pubE c)))] w0 [(nb ρ1 0, (.cells (cU x) 24 (0, 0))), (nb ρ1 1, (.cells (cU p) 24 (0, 0))), (nb ρ1 2, (.cells (hB t) 26 (0, 0))), (nb ρ3 6, (.cells (cU a) 24 (0, 0))), (nb ρ4 6, (.cells (cU a) 24 (0, 0))), (nb ρ5 6, (.cells (cU c) 24 (0, 0))), (nb ρ6 6, (.cells (cU c) 24 (0, 0))), (nb ρ8 5, (.cells (cU q) 24 (0, 0))), (nb ρ11 6, (.cells (cU y) 24 (0, 0))), (nb ρ14 5, (.cells (cU z) 24 (0, 0)))] F
    (fun _ => [(6, (.bool true))])
    (fun _ => [(nb ρ1 0, (.cells (cU x) 24 (0, 0))), (nb ρ1 1, (.cells (cU p) 24 (0, 0))), (nb ρ1 2, (.cells (hB t) 26 (0, 0))), (nb ρ3 6, (.cells (cU a) 24 (0, 0))), (nb ρ4 6, (.cells (cU a) 24 (0, 0))), (nb ρ5 6, (.cells (cU c) 24 (0, 0))), (nb ρ6 6, (.cells (cU c) 24 (0, 0))), (nb ρ8 5, (.cells (cU q) 24 (0, 0))), (nb ρ11 6, (.cells (cU y) 24 (0, 0))), (nb ρ14 5, (.cells (cU z) 24 (0, 0)))]) := by
  refine reg_seq [0, 1, 3, 7, 15, 31, 63, 127, 255, 511, 1023, 2047] [6] 12
    (fun _ ι => ([(.int .i64 (twE q t)), (.bool true), (.bool true), (.int .i64 (pubE c)), (.bool true), (.bool true), (.bool true), (U y), (U z), (.bool true), (.bool true), (.bool true)] : List Value).getD ι undef)
    (fun _ ι => ([{}, {}, {}, {}, {}, {}, {}, {}, {}, {}, {}, {}] : List Eff).getD ι {})
    (by kernel_rfl) (by kernel_rfl) (fun _ => by kernel_rfl) (fun _ => by kernel_rfl) ⟨⟨⟨⟨⟨⟨⟨⟨⟨⟨⟨⟨trivial, ?_⟩, ?_⟩, ?_⟩, ?_⟩, ?_⟩, ?_⟩, ?_⟩, ?_⟩, ?_⟩, ?_⟩, ?_⟩, ?_⟩
  · exact o_run 0 [] [] (fun _ _ => []) (fun _ _ => by kernel_rfl)
  · exact o_as 1 (fun _ => (.bool ((twE q t) == 0))) (fun _ => (.bool true)) (fun _ _ => by kernel_rfl) (fun _ => congrArg Value.bool (show ((twE q t) == 0) = true by rw [← eq]; exact beqI (both (tsE_ok hb2).1 (tsE_ok hb2).2).1))
  · exact o_run 2 [] [] (fun _ _ => []) (fun _ _ => by kernel_rfl)
  · exact o_run 3 [] [] (fun _ _ => []) (fun _ _ => by kernel_rfl)
  · exact o_as 4 (fun _ => (.bool ((pubE c) == 0))) (fun _ => (.bool true)) (fun _ _ => by kernel_rfl) (fun _ => congrArg Value.bool (show ((pubE c) == 0) = true by rw [← ec]; exact beqI (both (tsE_ok hb2).1 (tsE_ok hb2).2).2.2.1))
  · exact o_run 5 [] [] (fun _ _ => []) (fun _ _ => by kernel_rfl)
  · exact o_run 6 [] [] (fun _ _ => []) (fun _ _ => by kernel_rfl)
  · exact o_run 7 [8] [] (fun _ _ => [nb ρ11 6, nb ρ11 6, nb ρ11 6, nb ρ11 6]) (fun _ _ => by kernel_rfl)
  · exact o_run 8 [9] [] (fun _ _ => [nb ρ14 5, nb ρ14 5, nb ρ14 5, nb ρ14 5]) (fun _ _ => by kernel_rfl)
  · exact o_bin 9 .eql 24 (fun _ => (U y)) (fun _ => (U z)) (fun _ => (.bool true)) (fun _ => by kernel_rfl) (fun _ _ _ _ => by kernel_rfl) (fun _ _ => (eqlU y z hy hz _).trans (by rw [(decide_eq_true (by rw [← ey, ← ez, ← eq, ← ec]; exact (both (tsE_ok hb2).1 (tsE_ok hb2).2).2.1))]; try rfl))
  · exact o_run 10 [] [] (fun _ _ => []) (fun _ _ => by kernel_rfl)
  · exact o_run 11 [] [] (fun _ _ => []) (fun _ _ => by kernel_rfl)
theorem signTweaksw_any (x : Nat) (p : Nat) (t : Nat) (a : Nat) (c : Nat) (q : Nat) (y : Nat) (z : Nat) (hx : x < M) (hp : p < M) (ht : t < M) (ha : a < M) (hc : c < M) (hq : q < M) (hy : y < M) (hz : z < M) (ea : twV p t = a) (ec : tsV x t = c) (eq : pubV x = q) (ey : twV q t = y) (ez : pubV c = z) (w0 : World) (hf0 : Kb w0 1 (rowK .u32 64 kN)) (hf1 : Kb w0 0 #[(.int .u32 1779033703), (.int .u32 3144134277), (.int .u32 1013904242), (.int .u32 2773480762), (.int .u32 1359893119), (.int .u32 2600822924), (.int .u32 528734635), (.int .u32 1541459225)]) : Calls Tryd.prog 8 #[(U x), (U p), (.agg (hB t))] w0 (fun ε w' => ε = .returned (.bool true) ∧ Below w0.heap.size w0 w') := by
  refine Calls.of_ok (n := 101) (F := (fun w => Kb w 1 (rowK .u32 64 kN) ∧ Kb w 0 #[(.int .u32 1779033703), (.int .u32 3144134277), (.int .u32 1013904242), (.int .u32 2773480762), (.int .u32 1359893119), (.int .u32 2600822924), (.int .u32 528734635), (.int .u32 1541459225)] ∧ True)) Tryd.func8 rfl rfl rfl (by simp) (hf0.pers0.and (hf1.pers0.and persT)) ?_
  refine ok_seq_r (by kernel_rfl) (signTweaksw_any_r1 x p t _ _) (fun ρ1 => ?_)
  refine ok_seq ?_
  refine ok_seq_rf (by kernel_rfl) (signTweaksw_any_r2 x p t ρ1 _) (fun _ => ?_)
  refine ok_no (by kernel_rfl) ?_
  refine ok_skip ?_
  refine mt_then ?_
  refine ok_seq_rf (by kernel_rfl) (signTweaksw_any_r3 x p t a hp ht ea ρ1 _) (fun ρ3 => ?_)
  refine ok_seq_rf (by kernel_rfl) (signTweaksw_any_r4 x p t a hp ht ea ρ1 ρ3 _) (fun ρ4 => ?_)
  refine ok_seq_rf (by kernel_rfl) (signTweaksw_any_r5 x p t a c hx ht ec ρ1 ρ3 ρ4 _) (fun ρ5 => ?_)
  refine ok_seq_rf (by kernel_rfl) (signTweaksw_any_r6 x p t a c hx ht ec ρ1 ρ3 ρ4 ρ5 _) (fun ρ6 => ?_)
  refine ok_seq ?_
  refine ok_seq_r (by kernel_rfl) (signTweaksw_any_r7 x p t a c ha hc ρ1 ρ3 ρ4 ρ5 ρ6 _ _) (fun _ => ?_)
  refine ok_no (by kernel_rfl) ?_
  refine ok_skip ?_
  refine mt_then ?_
  refine ok_seq_rf (by kernel_rfl) (signTweaksw_any_r8 x p t a c q hx eq ρ1 ρ3 ρ4 ρ5 ρ6 _) (fun ρ8 => ?_)
  refine ok_seq ?_
  refine ok_seq_r (by kernel_rfl) (signTweaksw_any_r9 x p t a c q ρ1 ρ3 ρ4 ρ5 ρ6 ρ8 _ _) (fun _ => ?_)
  refine ok_cond (b := (pubE x) != 0) (by kernel_rfl) (fun hb1 => ?_) (fun hb1 => ?_)
  ·
    rw [hb1]
    refine ok_seq_r (by kernel_rfl) (signTweaksw_any_r10 x p t a c q hb1 ρ1 ρ3 ρ4 ρ5 ρ6 ρ8 _ _) (fun _ => ?_)
    refine ok_ret ?_
    refine mt_then_r ?_
    exact meets_ret (v := (.bool true)) [] (dup []) (by kernel_rfl) (by kernel_rfl) (eqs_dup _) (fun _ hS => ⟨rfl, hS.below⟩)
  ·
    rw [hb1]
    refine ok_skip ?_
    refine mt_then ?_
    refine ok_seq_rf (by kernel_rfl) (signTweaksw_any_r11 x p t a c q y ht hq ey ρ1 ρ3 ρ4 ρ5 ρ6 ρ8 _) (fun ρ11 => ?_)
    refine ok_seq ?_
    refine ok_seq_r (by kernel_rfl) (signTweaksw_any_r12 x p t a c q y ρ1 ρ3 ρ4 ρ5 ρ6 ρ8 ρ11 _ _) (fun _ => ?_)
    refine ok_cond (b := (tsE x t) != 0) (by kernel_rfl) (fun hb2 => ?_) (fun hb2 => ?_)
    ·
      rw [hb2]
      refine ok_seq_r (by kernel_rfl) (signTweaksw_any_r13 x p t a c q y eq hb1 hb2 ρ1 ρ3 ρ4 ρ5 ρ6 ρ8 ρ11 _ _) (fun _ => ?_)
      refine ok_ret ?_
      refine mt_then_r ?_
      exact meets_ret (v := (.bool true)) [] (dup []) (by kernel_rfl) (by kernel_rfl) (eqs_dup _) (fun _ hS => ⟨rfl, hS.below⟩)
    ·
      rw [hb2]
      refine ok_skip ?_
      refine mt_then ?_
      refine ok_seq_rf (by kernel_rfl) (signTweaksw_any_r14 x p t a c q y z hc ez ρ1 ρ3 ρ4 ρ5 ρ6 ρ8 ρ11 _) (fun ρ14 => ?_)
      refine ok_seq_r (by kernel_rfl) (signTweaksw_any_r15 x p t a c q y z hy hz ec eq ey ez hb2 ρ1 ρ3 ρ4 ρ5 ρ6 ρ8 ρ11 ρ14 _ _) (fun _ => ?_)
      refine ok_ret ?_
      exact meets_ret (v := (.bool true)) [] (dup []) (by kernel_rfl) (by kernel_rfl) (eqs_dup _) (fun _ hS => ⟨rfl, hS.below⟩)
theorem signTweaks_any (x : Nat) (p : Nat) (t : Nat) (hx : x < M) (hp : p < M) (ht : t < M) (w0 : World) (hf0 : Kb w0 1 (rowK .u32 64 kN)) (hf1 : Kb w0 0 #[(.int .u32 1779033703), (.int .u32 3144134277), (.int .u32 1013904242), (.int .u32 2773480762), (.int .u32 1359893119), (.int .u32 2600822924), (.int .u32 528734635), (.int .u32 1541459225)]) : Calls Tryd.prog 8 #[(U x), (U p), (.agg (hB t))] w0 (fun ε w' => ε = .returned (.bool true) ∧ Below w0.heap.size w0 w') := signTweaksw_any x p t (twV p t) (tsV x t) (pubV x) (twV (pubV x) t) (pubV (tsV x t)) hx hp ht (twV_lt _ _) (tsV_lt _ _) (pubV_lt _) (twV_lt _ _) (pubV_lt _) rfl rfl rfl rfl rfl w0 hf0 hf1
end Go.Proofs.YtoibhbmcplhiaaaDoor
