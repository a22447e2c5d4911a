/-
  The statement KeytreeWalks: for every input the law returns true, and each argument reads behind the call as it read before. No condition.
-/
import Derived.Test.YtjdhjkceahaegaaGreatDoorBase6
import Derived.Test.YtjdhjkceahaegaaGreatDoorRows
import Derived.Test.YtjdhjkceahaegaaGreatDoorCards
import Derived.Test.YtjdhjkceahaegaaGreatDoorTie
import Derived.SevenTiedAt
import Derived.LaidMore
import Derived.LaidHandle
import Derived.Stop.Joined
import Derived.WalkKit
import Derived.ProofKit
import Derived.OpenShut
import Derived.SizedLaws
set_option maxRecDepth 100000

/-! The law KeytreeWalks: the walk. -/
namespace Go.Proofs.YtjdhjkceahaegaaGreatDoor
open Go Go.RowKit

theorem keytreeWalksw_any (a : Option Addr) (c : Nat) (zs : List Int) (a2 : Option Addr) (c2 : Nat) (ps : List Nat) (x : Ky) (hz : Z64 zs) (hp : ∀ i ∈ ps, i < 4294967296) (hx : x.Ok) (ex : mkK zs 1 (((dN zs 0 2 : Nat) : Int) == 0) = x) (w0 : World) (hf0 : Kb w0 1 (rowK .u32 64 kN)) (hf1 : Kb w0 0 #[(.int .u32 1779033703), (.int .u32 3144134277), (.int .u32 1013904242), (.int .u32 2773480762), (.int .u32 1359893119), (.int .u32 2600822924), (.int .u32 528734635), (.int .u32 1541459225)]) (hf2 : Is w0 .i64 a c zs) (hf3 : Is w0 .u32 a2 c2 (nI ps)) : Calls Tryz.prog 4 #[(.slice a (zs).length c), (.slice a2 (nI ps).length c2)] w0 (fun ε w' => ε = .returned (.bool true) ∧ Below w0.heap.size w0 w') := by
  refine Calls.of_ok (n := 46) (F := (fun w => Kb w 1 (rowK .u32 64 kN) ∧ Kb w 0 #[(.int .u32 1779033703), (.int .u32 3144134277), (.int .u32 1013904242), (.int .u32 2773480762), (.int .u32 1359893119), (.int .u32 2600822924), (.int .u32 528734635), (.int .u32 1541459225)] ∧ Is w .i64 a c zs ∧ Is w .u32 a2 c2 (nI ps) ∧ True)) Tryz.func4 rfl rfl rfl (by simp) (hf0.pers0.and (hf1.pers0.and (hf2.pers0.and (hf3.pers0.and persT)))) ?_
  refine sS Tryz.f4 1 [0, 1, 4] [] (fun _ => [(.bool false)]) (fun _ => []) (cR [[]] <| cN) (fun _ => ?_)
  refine ok_seq ?_
  refine sS Tryz.f4 2 [0, 1, 4, 12] [] (fun _ => [(.bool true), (.bool false)]) (fun _ => []) (cC (fun _ w => ksane_any w) <| cR [[]] <| cN) (fun _ => ?_)
  refine oN ?_
  refine ok_skip ?_
  refine mt_then ?_
  refine ok_seq ?_
  refine sS Tryz.f4 3 [0, 1, 4, 15] [] (fun _ => [(.slice a2 (nI ps).length c2), (.int .i64 (((nI ps).length : Nat) : Int)), (.bool (decide (3 < (((nI ps).length : Nat) : Int))))]) (fun _ => []) (cR [[], [], []] <| cN) (fun _ => ?_)
  refine oC (decide (3 < (((nI ps).length : Nat) : Int))) (fun hb1 => ?_) (fun hb1 => ?_)
  ·
    rw [hb1]
    refine sS Tryz.f4 1 [0, 1, 4] [] (fun _ => [(.bool true)]) (fun _ => []) (cR [[]] <| cN) (fun _ => ?_)
    refine ok_ret ?_
    refine mt_then_r ?_
    exact mR (v := (.bool true)) (fun _ hS => ⟨rfl, hS.bel⟩)
  ·
    rw [hb1]
    refine ok_skip ?_
    refine mt_then ?_
    refine sS Tryz.f4 3 [1, 4, 5] [] (fun ρ => [(.slice a (zs).length c), (pt (nb ρ 1)), (pt (nb ρ 1))]) (fun ρ => [(1, { news := [(nb ρ 1, (.cells #[(.slice a (zs).length c), (.int .i64 ((pN zs 0 : Nat) : Int))] 53 (0, 0)))] })]) (cR [[]] <| cX (o_callN _ 7 (fun _ => #[(.slice a (zs).length c)]) (fun _ z => (pt z)) (fun _ => (.cells #[(.slice a (zs).length c), (.int .i64 ((pN zs 0 : Nat) : Int))] 53 (0, 0))) (fun _ _ => (by kernel_rfl)) (fun _ _ => (by kernel_rfl)) (fun _ _ => (by kernel_rfl)) (fun _ _ => trivial) (fun _ _ w hG => mnew_any a c zs w hG.facts0.now.2.2.1)) <| cR [[]] <| cN) (fun ρ5 => ?_)
    refine sS Tryz.f4 7 [1, 4, 5, 6] [] (fun ρ => [(pt (nb ρ5 1)), (pt (nb ρ5 1)), (.int .i64 ((dN zs 0 2 : Nat) : Int)), (.bool (((dN zs 0 2 : Nat) : Int) == 0)), (.agg (kC x.s x.p x.c x.d ((x.i : Nat) : Int) ((x.n : Nat) : Int))), (pt (nb ρ 5)), undef]) (fun ρ => [(2, { puts := [(0, nb ρ5 1, (.cells #[(.slice a (zs).length c), (.int .i64 ((pN zs 1 : Nat) : Int))] 53 (0, 0)))] }), (4, { puts := [(0, nb ρ5 1, (.cells #[(.slice a (zs).length c), (.int .i64 ((pN zs 7 : Nat) : Int))] 53 (0, 0)))] }), (5, { news := [(nb ρ 5, (.cells (kC 0 0 0 0 0 0) 33 (0, 0)))] }), (6, { puts := [(41, nb ρ 5, (.cells (kC x.s x.p x.c x.d ((x.i : Nat) : Int) ((x.n : Nat) : Int)) 33 (0, 0)))] })]) (cR [[], []] <| cX (o_callW _ [0] 9 (fun _ => #[(pt (nb ρ5 1)), (.int .i64 2)]) (fun _ => (.int .i64 ((dN zs 0 2 : Nat) : Int))) (fun _ => [(nb ρ5 1, (.cells #[(.slice a (zs).length c), (.int .i64 ((pN zs 0 : Nat) : Int))] 53 (0, 0)))]) (fun _ => [(nb ρ5 1, (.cells #[(.slice a (zs).length c), (.int .i64 ((pN zs 1 : Nat) : Int))] 53 (0, 0)))]) (fun _ _ w hG hK => next_any (nb ρ5 1) a c zs 0 2 (by decide) hz w hK (hG.persK [0] (by kernel_rfl) (by kernel_rfl) (fun _ hF => ⟨hF.2.2.1, trivial⟩)) )) <| cR [[]] <| cX (o_callW _ [0] 8 (fun _ => #[(pt (nb ρ5 1)), (.bool (((dN zs 0 2 : Nat) : Int) == 0))]) (fun _ => (.agg (kC x.s x.p x.c x.d ((x.i : Nat) : Int) ((x.n : Nat) : Int)))) (fun _ => [(nb ρ5 1, (.cells #[(.slice a (zs).length c), (.int .i64 ((pN zs 1 : Nat) : Int))] 53 (0, 0)))]) (fun _ => [(nb ρ5 1, (.cells #[(.slice a (zs).length c), (.int .i64 ((pN zs 7 : Nat) : Int))] 53 (0, 0)))]) (fun _ _ w hG hK => (by as_aux_lemma => (have hcall := mkey_any (nb ρ5 1) a c zs 1 (((dN zs 0 2 : Nat) : Int) == 0) hz w hK (hG.persK [0] (by kernel_rfl) (by kernel_rfl) (fun _ hF => ⟨hF.2.2.1, trivial⟩)) ; rw [ex] at hcall; exact hcall)))) <| cR [[], [41]] <| cN) (fun ρ6 => ?_)
    refine dRs [(1, (.slice a2 (nI ps).length c2)), (4, (.bool false)), (5, (pt (nb ρ5 1))), (6, (pt (nb ρ6 5)))] [(nb ρ5 1, (.cells #[(.slice a (zs).length c), (.int .i64 ((pN zs 7 : Nat) : Int))] 53 (0, 0))), (nb ρ6 5, (.cells (kC x.s x.p x.c x.d ((x.i : Nat) : Int) ((x.n : Nat) : Int)) 33 (0, 0)))] ?_
    refine sS Tryz.f4 4 [1, 4, 6] [0, 1] (fun _ => [(pt (nb ρ5 1)), (.int .i64 ((dN zs 7 9 : Nat) : Int)), (.pointer (some ⟨nb ρ6 5, 40, none⟩)), undef]) (fun _ => [(1, { puts := [(0, nb ρ5 1, (.cells #[(.slice a (zs).length c), (.int .i64 ((pN zs 8 : Nat) : Int))] 53 (0, 0)))] }), (3, { puts := [(1, nb ρ6 5, (.cells (kC x.s x.p x.c ((dN zs 7 9 : Nat) : Int) ((x.i : Nat) : Int) ((x.n : Nat) : Int)) 33 (0, 0)))] })]) (cR [[]] <| cX (o_callW _ [0] 9 (fun _ => #[(pt (nb ρ5 1)), (.int .i64 9)]) (fun _ => (.int .i64 ((dN zs 7 9 : Nat) : Int))) (fun _ => [(nb ρ5 1, (.cells #[(.slice a (zs).length c), (.int .i64 ((pN zs 7 : Nat) : Int))] 53 (0, 0)))]) (fun _ => [(nb ρ5 1, (.cells #[(.slice a (zs).length c), (.int .i64 ((pN zs 8 : Nat) : Int))] 53 (0, 0)))]) (fun _ _ w hG hK => next_any (nb ρ5 1) a c zs 7 9 (by decide) hz w hK (hG.persK [0] (by kernel_rfl) (by kernel_rfl) (fun _ hF => ⟨hF.2.2.1, trivial⟩)) )) <| cR [[], [1]] <| cN) (fun _ => ?_)
    refine sS Tryz.f4 9 [1, 4, 6, 7, 8] [] (fun ρ => [(.agg (kC x.s x.p x.c ((dN zs 7 9 : Nat) : Int) ((x.i : Nat) : Int) ((x.n : Nat) : Int))), (.slice a2 (nI ps).length c2), (.tuple #[(.agg (kC ((drK (Ky.mk x.s x.p x.c ((dN zs 7 9 : Nat) : Int) x.i x.n) ps).s) ((drK (Ky.mk x.s x.p x.c ((dN zs 7 9 : Nat) : Int) x.i x.n) ps).p) ((drK (Ky.mk x.s x.p x.c ((dN zs 7 9 : Nat) : Int) x.i x.n) ps).c) ((drK (Ky.mk x.s x.p x.c ((dN zs 7 9 : Nat) : Int) x.i x.n) ps).d) (((drK (Ky.mk x.s x.p x.c ((dN zs 7 9 : Nat) : Int) x.i x.n) ps).i : Nat) : Int) (((drK (Ky.mk x.s x.p x.c ((dN zs 7 9 : Nat) : Int) x.i x.n) ps).n : Nat) : Int))), (.int .i64 (drE (Ky.mk x.s x.p x.c ((dN zs 7 9 : Nat) : Int) x.i x.n) ps))]), (.tuple #[(.agg (kC ((drK (Ky.mk x.s x.p x.c ((dN zs 7 9 : Nat) : Int) x.i x.n) ps).s) ((drK (Ky.mk x.s x.p x.c ((dN zs 7 9 : Nat) : Int) x.i x.n) ps).p) ((drK (Ky.mk x.s x.p x.c ((dN zs 7 9 : Nat) : Int) x.i x.n) ps).c) ((drK (Ky.mk x.s x.p x.c ((dN zs 7 9 : Nat) : Int) x.i x.n) ps).d) (((drK (Ky.mk x.s x.p x.c ((dN zs 7 9 : Nat) : Int) x.i x.n) ps).i : Nat) : Int) (((drK (Ky.mk x.s x.p x.c ((dN zs 7 9 : Nat) : Int) x.i x.n) ps).n : Nat) : Int))), (.int .i64 (drE (Ky.mk x.s x.p x.c ((dN zs 7 9 : Nat) : Int) x.i x.n) ps))]), (.agg (kC ((drK (Ky.mk x.s x.p x.c ((dN zs 7 9 : Nat) : Int) x.i x.n) ps).s) ((drK (Ky.mk x.s x.p x.c ((dN zs 7 9 : Nat) : Int) x.i x.n) ps).p) ((drK (Ky.mk x.s x.p x.c ((dN zs 7 9 : Nat) : Int) x.i x.n) ps).c) ((drK (Ky.mk x.s x.p x.c ((dN zs 7 9 : Nat) : Int) x.i x.n) ps).d) (((drK (Ky.mk x.s x.p x.c ((dN zs 7 9 : Nat) : Int) x.i x.n) ps).i : Nat) : Int) (((drK (Ky.mk x.s x.p x.c ((dN zs 7 9 : Nat) : Int) x.i x.n) ps).n : Nat) : Int))), (.int .i64 (drE (Ky.mk x.s x.p x.c ((dN zs 7 9 : Nat) : Int) x.i x.n) ps)), (pt (nb ρ 6)), undef, (.int .i64 (drE (Ky.mk x.s x.p x.c ((dN zs 7 9 : Nat) : Int) x.i x.n) ps))]) (fun ρ => [(6, { news := [(nb ρ 6, (.cells (kC 0 0 0 0 0 0) 33 (0, 0)))] }), (7, { puts := [(49, nb ρ 6, (.cells (kC ((drK (Ky.mk x.s x.p x.c ((dN zs 7 9 : Nat) : Int) x.i x.n) ps).s) ((drK (Ky.mk x.s x.p x.c ((dN zs 7 9 : Nat) : Int) x.i x.n) ps).p) ((drK (Ky.mk x.s x.p x.c ((dN zs 7 9 : Nat) : Int) x.i x.n) ps).c) ((drK (Ky.mk x.s x.p x.c ((dN zs 7 9 : Nat) : Int) x.i x.n) ps).d) (((drK (Ky.mk x.s x.p x.c ((dN zs 7 9 : Nat) : Int) x.i x.n) ps).i : Nat) : Int) (((drK (Ky.mk x.s x.p x.c ((dN zs 7 9 : Nat) : Int) x.i x.n) ps).n : Nat) : Int)) 33 (0, 0)))] })]) (cR [[0], []] <| cX (o_callP _ 12 (fun _ => #[(.agg (kC x.s x.p x.c ((dN zs 7 9 : Nat) : Int) ((x.i : Nat) : Int) ((x.n : Nat) : Int))), (.slice a2 (nI ps).length c2)]) (fun _ => (.tuple #[(.agg (kC ((drK (Ky.mk x.s x.p x.c ((dN zs 7 9 : Nat) : Int) x.i x.n) ps).s) ((drK (Ky.mk x.s x.p x.c ((dN zs 7 9 : Nat) : Int) x.i x.n) ps).p) ((drK (Ky.mk x.s x.p x.c ((dN zs 7 9 : Nat) : Int) x.i x.n) ps).c) ((drK (Ky.mk x.s x.p x.c ((dN zs 7 9 : Nat) : Int) x.i x.n) ps).d) (((drK (Ky.mk x.s x.p x.c ((dN zs 7 9 : Nat) : Int) x.i x.n) ps).i : Nat) : Int) (((drK (Ky.mk x.s x.p x.c ((dN zs 7 9 : Nat) : Int) x.i x.n) ps).n : Nat) : Int))), (.int .i64 (drE (Ky.mk x.s x.p x.c ((dN zs 7 9 : Nat) : Int) x.i x.n) ps))])) (fun _ _ => (by kernel_rfl)) (fun _ => (by kernel_rfl)) (fun _ _ => (by kernel_rfl)) (fun _ _ => trivial) (fun _ _ w hG => derive_any (Ky.mk x.s x.p x.c ((dN zs 7 9 : Nat) : Int) x.i x.n) a2 c2 ps (Ky.Ok.mk hx.s hx.p hx.c hx.i hx.n) hp w hG.facts0.now.2.2.2.1 hG.facts0.now.1 hG.facts0.now.2.1)) <| cR [[], [], [], [], [49], []] <| cN) (fun _ => ?_)
    refine sS Tryz.f4 9 [4, 7, 8, 9, 10] [0, 1, 1] (fun ρ => [(.agg (kC x.s x.p x.c ((dN zs 7 9 : Nat) : Int) ((x.i : Nat) : Int) ((x.n : Nat) : Int))), (.slice a2 (nI ps).length c2), (.tuple #[(.agg (kC ((drK (Ky.mk x.s x.p x.c ((dN zs 7 9 : Nat) : Int) x.i x.n) ps).s) ((drK (Ky.mk x.s x.p x.c ((dN zs 7 9 : Nat) : Int) x.i x.n) ps).p) ((drK (Ky.mk x.s x.p x.c ((dN zs 7 9 : Nat) : Int) x.i x.n) ps).c) ((drK (Ky.mk x.s x.p x.c ((dN zs 7 9 : Nat) : Int) x.i x.n) ps).d) (((drK (Ky.mk x.s x.p x.c ((dN zs 7 9 : Nat) : Int) x.i x.n) ps).i : Nat) : Int) (((drK (Ky.mk x.s x.p x.c ((dN zs 7 9 : Nat) : Int) x.i x.n) ps).n : Nat) : Int))), (.int .i64 (drE (Ky.mk x.s x.p x.c ((dN zs 7 9 : Nat) : Int) x.i x.n) ps))]), (.tuple #[(.agg (kC ((drK (Ky.mk x.s x.p x.c ((dN zs 7 9 : Nat) : Int) x.i x.n) ps).s) ((drK (Ky.mk x.s x.p x.c ((dN zs 7 9 : Nat) : Int) x.i x.n) ps).p) ((drK (Ky.mk x.s x.p x.c ((dN zs 7 9 : Nat) : Int) x.i x.n) ps).c) ((drK (Ky.mk x.s x.p x.c ((dN zs 7 9 : Nat) : Int) x.i x.n) ps).d) (((drK (Ky.mk x.s x.p x.c ((dN zs 7 9 : Nat) : Int) x.i x.n) ps).i : Nat) : Int) (((drK (Ky.mk x.s x.p x.c ((dN zs 7 9 : Nat) : Int) x.i x.n) ps).n : Nat) : Int))), (.int .i64 (drE (Ky.mk x.s x.p x.c ((dN zs 7 9 : Nat) : Int) x.i x.n) ps))]), (.agg (kC ((drK (Ky.mk x.s x.p x.c ((dN zs 7 9 : Nat) : Int) x.i x.n) ps).s) ((drK (Ky.mk x.s x.p x.c ((dN zs 7 9 : Nat) : Int) x.i x.n) ps).p) ((drK (Ky.mk x.s x.p x.c ((dN zs 7 9 : Nat) : Int) x.i x.n) ps).c) ((drK (Ky.mk x.s x.p x.c ((dN zs 7 9 : Nat) : Int) x.i x.n) ps).d) (((drK (Ky.mk x.s x.p x.c ((dN zs 7 9 : Nat) : Int) x.i x.n) ps).i : Nat) : Int) (((drK (Ky.mk x.s x.p x.c ((dN zs 7 9 : Nat) : Int) x.i x.n) ps).n : Nat) : Int))), (.int .i64 (drE (Ky.mk x.s x.p x.c ((dN zs 7 9 : Nat) : Int) x.i x.n) ps)), (pt (nb ρ 6)), undef, (.int .i64 (drE (Ky.mk x.s x.p x.c ((dN zs 7 9 : Nat) : Int) x.i x.n) ps))]) (fun ρ => [(6, { news := [(nb ρ 6, (.cells (kC 0 0 0 0 0 0) 33 (0, 0)))] }), (7, { puts := [(50, nb ρ 6, (.cells (kC ((drK (Ky.mk x.s x.p x.c ((dN zs 7 9 : Nat) : Int) x.i x.n) ps).s) ((drK (Ky.mk x.s x.p x.c ((dN zs 7 9 : Nat) : Int) x.i x.n) ps).p) ((drK (Ky.mk x.s x.p x.c ((dN zs 7 9 : Nat) : Int) x.i x.n) ps).c) ((drK (Ky.mk x.s x.p x.c ((dN zs 7 9 : Nat) : Int) x.i x.n) ps).d) (((drK (Ky.mk x.s x.p x.c ((dN zs 7 9 : Nat) : Int) x.i x.n) ps).i : Nat) : Int) (((drK (Ky.mk x.s x.p x.c ((dN zs 7 9 : Nat) : Int) x.i x.n) ps).n : Nat) : Int)) 33 (0, 0)))] })]) (cR [[0], []] <| cX (o_callP _ 13 (fun _ => #[(.agg (kC x.s x.p x.c ((dN zs 7 9 : Nat) : Int) ((x.i : Nat) : Int) ((x.n : Nat) : Int))), (.slice a2 (nI ps).length c2)]) (fun _ => (.tuple #[(.agg (kC ((drK (Ky.mk x.s x.p x.c ((dN zs 7 9 : Nat) : Int) x.i x.n) ps).s) ((drK (Ky.mk x.s x.p x.c ((dN zs 7 9 : Nat) : Int) x.i x.n) ps).p) ((drK (Ky.mk x.s x.p x.c ((dN zs 7 9 : Nat) : Int) x.i x.n) ps).c) ((drK (Ky.mk x.s x.p x.c ((dN zs 7 9 : Nat) : Int) x.i x.n) ps).d) (((drK (Ky.mk x.s x.p x.c ((dN zs 7 9 : Nat) : Int) x.i x.n) ps).i : Nat) : Int) (((drK (Ky.mk x.s x.p x.c ((dN zs 7 9 : Nat) : Int) x.i x.n) ps).n : Nat) : Int))), (.int .i64 (drE (Ky.mk x.s x.p x.c ((dN zs 7 9 : Nat) : Int) x.i x.n) ps))])) (fun _ _ => (by kernel_rfl)) (fun _ => (by kernel_rfl)) (fun _ _ => (by kernel_rfl)) (fun _ _ => trivial) (fun _ _ w hG => rderive_any (Ky.mk x.s x.p x.c ((dN zs 7 9 : Nat) : Int) x.i x.n) a2 c2 ps (Ky.Ok.mk hx.s hx.p hx.c hx.i hx.n) hp w hG.facts0.now.2.2.2.1)) <| cR [[], [], [], [], [50], []] <| cN) (fun _ => ?_)
    refine sS Tryz.f4 9 [4] [0, 0] (fun _ => [(.agg (kC ((drK (Ky.mk x.s x.p x.c ((dN zs 7 9 : Nat) : Int) x.i x.n) ps).s) ((drK (Ky.mk x.s x.p x.c ((dN zs 7 9 : Nat) : Int) x.i x.n) ps).p) ((drK (Ky.mk x.s x.p x.c ((dN zs 7 9 : Nat) : Int) x.i x.n) ps).c) ((drK (Ky.mk x.s x.p x.c ((dN zs 7 9 : Nat) : Int) x.i x.n) ps).d) (((drK (Ky.mk x.s x.p x.c ((dN zs 7 9 : Nat) : Int) x.i x.n) ps).i : Nat) : Int) (((drK (Ky.mk x.s x.p x.c ((dN zs 7 9 : Nat) : Int) x.i x.n) ps).n : Nat) : Int))), (.agg (kC ((drK (Ky.mk x.s x.p x.c ((dN zs 7 9 : Nat) : Int) x.i x.n) ps).s) ((drK (Ky.mk x.s x.p x.c ((dN zs 7 9 : Nat) : Int) x.i x.n) ps).p) ((drK (Ky.mk x.s x.p x.c ((dN zs 7 9 : Nat) : Int) x.i x.n) ps).c) ((drK (Ky.mk x.s x.p x.c ((dN zs 7 9 : Nat) : Int) x.i x.n) ps).d) (((drK (Ky.mk x.s x.p x.c ((dN zs 7 9 : Nat) : Int) x.i x.n) ps).i : Nat) : Int) (((drK (Ky.mk x.s x.p x.c ((dN zs 7 9 : Nat) : Int) x.i x.n) ps).n : Nat) : Int))), (.bool true), (.bool true), (.int .i64 (drE (Ky.mk x.s x.p x.c ((dN zs 7 9 : Nat) : Int) x.i x.n) ps)), (.int .i64 (drE (Ky.mk x.s x.p x.c ((dN zs 7 9 : Nat) : Int) x.i x.n) ps)), (.bool true), (.bool true), (.bool true)]) (fun _ => []) (cR [[0], [1]] <| cB (a := fun ρ => (.agg (kC ((drK (Ky.mk x.s x.p x.c ((dN zs 7 9 : Nat) : Int) x.i x.n) ps).s) ((drK (Ky.mk x.s x.p x.c ((dN zs 7 9 : Nat) : Int) x.i x.n) ps).p) ((drK (Ky.mk x.s x.p x.c ((dN zs 7 9 : Nat) : Int) x.i x.n) ps).c) ((drK (Ky.mk x.s x.p x.c ((dN zs 7 9 : Nat) : Int) x.i x.n) ps).d) (((drK (Ky.mk x.s x.p x.c ((dN zs 7 9 : Nat) : Int) x.i x.n) ps).i : Nat) : Int) (((drK (Ky.mk x.s x.p x.c ((dN zs 7 9 : Nat) : Int) x.i x.n) ps).n : Nat) : Int)))) (b := fun ρ => (.agg (kC ((drK (Ky.mk x.s x.p x.c ((dN zs 7 9 : Nat) : Int) x.i x.n) ps).s) ((drK (Ky.mk x.s x.p x.c ((dN zs 7 9 : Nat) : Int) x.i x.n) ps).p) ((drK (Ky.mk x.s x.p x.c ((dN zs 7 9 : Nat) : Int) x.i x.n) ps).c) ((drK (Ky.mk x.s x.p x.c ((dN zs 7 9 : Nat) : Int) x.i x.n) ps).d) (((drK (Ky.mk x.s x.p x.c ((dN zs 7 9 : Nat) : Int) x.i x.n) ps).i : Nat) : Int) (((drK (Ky.mk x.s x.p x.c ((dN zs 7 9 : Nat) : Int) x.i x.n) ps).n : Nat) : Int)))) (v := fun ρ => (.bool true)) .eql 33 (fun _ w => eql_same w) <| cR [[], [], []] <| cA (v := fun ρ => (.bool ((drE (Ky.mk x.s x.p x.c ((dN zs 7 9 : Nat) : Int) x.i x.n) ps) == (drE (Ky.mk x.s x.p x.c ((dN zs 7 9 : Nat) : Int) x.i x.n) ps)))) (fun _ => (.bool true)) (fun _ => congrArg Value.bool (beq_self_eq_true _)) <| cR [[], []] <| cN) (fun _ => ?_)
    refine ok_ret ?_
    exact mR (v := (.bool true)) (fun _ hS => ⟨rfl, hS.bel⟩)
theorem keytreeWalks_any (a : Option Addr) (c : Nat) (zs : List Int) (a2 : Option Addr) (c2 : Nat) (ps : List Nat) (hz : Z64 zs) (hp : ∀ i ∈ ps, i < 4294967296) (w0 : World) (hf0 : Kb w0 1 (rowK .u32 64 kN)) (hf1 : Kb w0 0 #[(.int .u32 1779033703), (.int .u32 3144134277), (.int .u32 1013904242), (.int .u32 2773480762), (.int .u32 1359893119), (.int .u32 2600822924), (.int .u32 528734635), (.int .u32 1541459225)]) (hf2 : Is w0 .i64 a c zs) (hf3 : Is w0 .u32 a2 c2 (nI ps)) : Calls Tryz.prog 4 #[(.slice a (zs).length c), (.slice a2 (nI ps).length c2)] w0 (fun ε w' => ε = .returned (.bool true) ∧ Below w0.heap.size w0 w') := keytreeWalksw_any a c zs a2 c2 ps _ hz hp (mkK_ok _ _ _) rfl w0 hf0 hf1 hf2 hf3
theorem keytreeWalks2_any (a : Option Addr) (c : Nat) (zs : List Int) (a2 : Option Addr) (c2 : Nat) (ys : List Int) (hz : Z64 zs) (hy : ∀ z ∈ ys, (Lit.int .u32 z).wf = true) (w0 : World) (hf0 : Kb w0 1 (rowK .u32 64 kN)) (hf1 : Kb w0 0 #[(.int .u32 1779033703), (.int .u32 3144134277), (.int .u32 1013904242), (.int .u32 2773480762), (.int .u32 1359893119), (.int .u32 2600822924), (.int .u32 528734635), (.int .u32 1541459225)]) (hf2 : Is w0 .i64 a c zs) (hf3 : Is w0 .u32 a2 c2 ys) : Calls Tryz.prog 4 #[.slice a zs.length c, .slice a2 ys.length c2] w0 (fun ε w' => ε = .returned (.bool true) ∧ Below w0.heap.size w0 w') := by
  obtain ⟨ps, rfl, hp⟩ := nI_of hy
  exact keytreeWalks_any a c zs a2 c2 ps hz hp w0 hf0 hf1 hf2 hf3
end Go.Proofs.YtjdhjkceahaegaaGreatDoor

/-! The statement KeytreeWalks: for every input the law returns true, and each argument reads behind the call as it read before. No condition. -/
namespace Go.Proofs.YtjdhjkceahaegaaGreatDoor.keytreeWalks
open Go.ChangeShapes Go.WideShapes Go.ChangeAt Go.RowKit

set_option maxRecDepth 100000 in
theorem lifted (os : Os) (started : os.Started) (H : Type) (enc : TypeId × Value → H) :
    ReturnsInHanded {} Tryz.checked os 4 .any (fun w args => (Rows.keytreeWalksSpec.pre enc Tryz.prog Tryz.f4 Rows.keytreeWalksRow.domain false w args ∧ laidMetH Tryz.prog shaLaid w) ∧ sizedMet enc Tryz.prog Tryz.f4 (OpenSpec.ofChange Rows.keytreeWalksSpec) false w args) (Rows.keytreeWalksSpec.post enc Tryz.prog Tryz.f4 false true false false) := by
  refine returnsInHanded_of_change_and (C := Tryz.checked) (X := fun w _ => laidMetH Tryz.prog shaLaid w) (fun _ _ _ hh h => h.of_heap hh) own started (by kernel_rfl) Tryz.func4
    (ChangeSpec.witness_shaped (enc := enc) (C := Tryz.checked) (os := os) (X := fun w _ => laidMetH Tryz.prog shaLaid w) false (World.doorLaid Tryz.prog 400 os) #[.slice none 0 0, .slice none 0 0] 8 rfl (World.shaped_of_RefB (by kernel_rfl) (by kernel_rfl)) (by kernel_rfl) (by kernel_rfl) (by kernel_rfl) (door_met os _)) ?_
  intro W base args ds gs before hval0 hW hcnd hsz hL _
  have hval : ∀ (j : Nat) t v, Tryz.f4.params[j]? = some t → args[j]? = some v → Value.okWide Tryz.prog W .any base t v := hval0
  have hW' := hW
  obtain ⟨p, q, hA0, hV, rfl, hfz, hnd⟩ := hW
  have hA : DataW.TrodAll enc Tryz.prog W 0 (fun _ => true) true Tryz.f4.params.toList args.toList ds p := hA0
  rw [Tryz.params4] at hA hval
  obtain ⟨v0, vs0, d0, ds0, p0, q0, hargs, rfl, rfl, h0, r0⟩ := trodAll_cons hA
  obtain ⟨v1, vs1, d1, ds1, p1, q1, rfl, rfl, rfl, h1, r1⟩ := trodAll_cons r0
  obtain ⟨rfl, rfl, rfl⟩ := trodAll_nil r1
  obtain rfl : args = #[v0, v1] := by cases args; simp_all
  obtain ⟨rfl, rfl⟩ := trodVars_none hV
  have k0 := h0
  have lt0 : ∀ x ∈ p0, x.block < W.heap.size := by obtain ⟨m, hm⟩ := k0; exact DataW.trod_lt m _ _ _ hm
  have k1 := h1
  have lt1 : ∀ x ∈ p1, x.block < W.heap.size := by obtain ⟨m, hm⟩ := k1; exact DataW.trod_lt m _ _ _ hm
  have s0 : ∀ elems spare, d0 = .slice elems spare → elems.length + spare.length ≤ 140737488351232 := by
    intro elems spare hd
    have hb : Tryz.checked.prog.bytesOf 3 = 8 := by kernel_rfl
    have := sized_slice hsz (j := 0) (t := 22) (e := 3) (elems := elems) (spare := spare) (by kernel_rfl) (by rw [hd]; rfl) Tryz.underlying22
    have hr : reachBytes = 140737488351232 := by kernel_rfl
    rw [hb, hr] at this
    omega
  obtain ⟨a0, c0, x0, rfl, w0, y0⟩ := open_ilist Tryz.underlying22 Tryz.underlying3 (by kernel_rfl) (hval 0 22 v0 rfl rfl) h0 s0
  have s1 : ∀ elems spare, d1 = .slice elems spare → elems.length + spare.length ≤ 140737488351232 := by
    intro elems spare hd
    have hb : Tryz.checked.prog.bytesOf 23 = 4 := by kernel_rfl
    have := sized_slice hsz (j := 1) (t := 40) (e := 23) (elems := elems) (spare := spare) (by kernel_rfl) (by rw [hd]; rfl) Tryz.underlying40
    have hr : reachBytes = 140737488351232 := by kernel_rfl
    rw [hb, hr] at this
    omega
  obtain ⟨a1, c1, x1, rfl, w1, y1⟩ := open_ilist Tryz.underlying40 Tryz.underlying23 (by kernel_rfl) (hval 1 40 v1 rfl rfl) h1 s1
  obtain ⟨hK, hI⟩ := laid_two hL
  clear hA0 hval0
  refine (keytreeWalks2_any a0 c0 x0 a1 c1 x1 (fun z hz => i64_of (y0 z hz)) y1 W hK hI w0 w1).mono fun e W' ⟨he, bel⟩ => ?_
  subst he
  exact ⟨_, rfl, _, _, _, [], _, [], hW', trodAll_mk1 (shut_bool Tryz.underlying4 _), (trodAll_cons_mk (Below.trod laidOut (by kernel_rfl) (of_decide_eq_true (by kernel_rfl)) k0 bel lt0) (trodAll_cons_mk (Below.trod laidOut (by kernel_rfl) (of_decide_eq_true (by kernel_rfl)) k1 bel lt1) trodAll_mk0)), rfl, bel.frame _, fun h => by cases h⟩

theorem over : Rows.keytreeWalksRow.holds Tryz.pinned (OpenSpec.ofChange Rows.keytreeWalksSpec) :=
  OpenClaim.holds_of_wide 4 Tryz.f4 rfl rfl rfl rfl rfl rfl rfl ⟨rfl, rfl, rfl, rfl, rfl⟩ rfl rfl rfl rfl rfl (by kernel_rfl) Tryz.func4 (by kernel_rfl)
    (of_decide_eq_true (by kernel_rfl)) (by unfold Func.isWrapper; first | (rw [if_pos (by decide +kernel)]; kernel_rfl) | (rw [if_neg (by decide +kernel)]; exact ⟨rfl, rfl⟩))
    (fun os started H enc _ => lifted os started H enc)

theorem proved : Rows.KeytreeWalksCardSaid :=
  Claim7.holds_tied_plain_at .later [] [.data, .data] true (true, "cdfa69fc58e327ab1a2fcb6ab64b4e7d08218b418b066e67d72d813372d4a16b") false
    over (fun _ h => by cases h) (by kernel_rfl) (fun _ h => by cases h) keytreeWalks_row_tie rfl ⟨rfl, rfl⟩ (by kernel_rfl) rfl
    (fun f fn hf hfn => by
      obtain rfl : f = 4 := Option.some.inj ((show Tryz.prog.funcNamed "lightclient/lightclientlaw25.KeytreeWalks" = some 4 by kernel_rfl).symm.trans hf) |>.symm
      obtain rfl : fn = Tryz.f4 := (Option.some.inj (Tryz.func4.symm.trans hfn)).symm
      exact ⟨by kernel_rfl, fun j t ht => by
        rw [Tryz.params4] at ht
        rcases j with _ | _ | j
        · have ht2 : t = 22 := by simpa using ht.symm
          subst ht2
          exact (show Tryz.prog.wantsStandIn 22 = false by kernel_rfl)
        · have ht2 : t = 40 := by simpa using ht.symm
          subst ht2
          exact (show Tryz.prog.wantsStandIn 40 = false by kernel_rfl)
        · simp at ht⟩)
    (by kernel_rfl)
#print axioms proved
end Go.Proofs.YtjdhjkceahaegaaGreatDoor.keytreeWalks
