/-
  The law CodecCanonical: the walk.
-/
import Derived.Test.YtclccfibfkcagaaCSane
import Derived.Test.YtclccfibfkcagaaCLaws
namespace Go.Proofs.Ytclccfibfkcagaa
open Go Go.RowKit
set_option maxRecDepth 100000
theorem codecCanonical_any_r1 (a : Option Addr) (c : Nat) (B : List UInt8) (q : Nat) (w0 : World) (F : World → Prop) : Reg Try.prog 0 (regOps Try.f4 0) false 48 [(0, (.slice a (B).length c)), (1, (.int .u64 ((q : Nat) : Int)))] w0 [] F
    (fun _ => [(0, (.slice a (B).length c)), (1, (.int .u64 ((q : Nat) : Int))), (4, (.bool false))])
    (fun _ => []) := by
  refine reg_seq [0] [0, 1, 4] 1
    (fun _ ι => ([(.bool false)] : List Value).getD ι undef)
    (fun _ ι => ([{}] : List Eff).getD ι {})
    (by as_aux_lemma => kernel_rfl) (by as_aux_lemma => kernel_rfl) (fun _ => by as_aux_lemma => kernel_rfl) (fun _ => by as_aux_lemma => kernel_rfl) ⟨trivial, ?_⟩
  · exact o_run 0 [] [] (fun _ _ => []) (fun _ _ => by as_aux_lemma => kernel_rfl)
theorem codecCanonical_any_r2 (a : Option Addr) (c : Nat) (B : List UInt8) (q : Nat) (w0 : World) (F : World → Prop) : Reg Try.prog 1 (regOps Try.f4 1) false 48 [(0, (.slice a (B).length c)), (1, (.int .u64 ((q : Nat) : Int))), (4, (.bool false))] w0 [] F
    (fun _ => [(0, (.slice a (B).length c)), (1, (.int .u64 ((q : Nat) : Int))), (4, (.bool false)), (9, (.bool false))])
    (fun _ => []) := by
  refine reg_seq [0, 1] [0, 1, 4, 9] 2
    (fun _ ι => ([(.bool true), (.bool false)] : List Value).getD ι undef)
    (fun _ ι => ([{}, {}] : List Eff).getD ι {})
    (by as_aux_lemma => kernel_rfl) (by as_aux_lemma => kernel_rfl) (fun _ => by as_aux_lemma => kernel_rfl) (fun _ => by as_aux_lemma => kernel_rfl) ⟨⟨trivial, ?_⟩, ?_⟩
  · exact o_call 0 12 (fun _ => #[]) (fun _ => (.bool true)) (fun _ _ => by as_aux_lemma => kernel_rfl) (fun _ w => (fun w => sane_any w) w)
  · exact o_run 1 [] [] (fun _ _ => []) (fun _ _ => by as_aux_lemma => kernel_rfl)
theorem codecCanonical_any_r3 (a : Option Addr) (c : Nat) (B : List UInt8) (q : Nat) (hBl : B.length ≤ 140737488351232) (hq : q < 18446744073709551616) (w0 : World) : RegF Try.prog 3 (regOps Try.f4 3) false 48 [(0, (.slice a (B).length c)), (1, (.int .u64 ((q : Nat) : Int))), (4, (.bool false)), (9, (.bool false))] w0 [] (fun w => Bs w a c B ∧ True)
    (fun _ => [(0, (.slice a (B).length c)), (1, (.int .u64 ((q : Nat) : Int))), (4, (.bool false)), (5, (.int .u64 ((szV B 0 q : Nat) : Int))), (6, (.int .i64 (szN B 0 q))), (7, (.int .i64 (szE B 0 q)))])
    (fun _ => []) (fun _ => (fun w => Bs w a c B ∧ True)) := by
  refine reg_seq_f [0, 1, 3, 7, 15, 31, 63, 127, 255, 511] [0, 1, 4, 5, 6, 7] 10
    (fun _ ι => ([(.slice a (B).length c), (.int .u64 ((q : Nat) : Int)), (.tuple #[(.int .u64 ((szV B 0 q : Nat) : Int)), (.int .i64 (szN B 0 q)), (.int .i64 (szE B 0 q))]), (.tuple #[(.int .u64 ((szV B 0 q : Nat) : Int)), (.int .i64 (szN B 0 q)), (.int .i64 (szE B 0 q))]), (.int .u64 ((szV B 0 q : Nat) : Int)), (.int .i64 (szN B 0 q)), (.int .i64 (szE B 0 q)), (.int .u64 ((szV B 0 q : Nat) : Int)), (.int .i64 (szN B 0 q)), (.int .i64 (szE B 0 q))] : List Value).getD ι undef)
    (fun _ ι => ([{}, {}, {}, {}, {}, {}, {}, {}, {}, {}] : List Eff).getD ι {})
    (fun _ ι => ([(fun _ => True), (fun _ => True), (fun _ => True), (fun _ => True), (fun _ => True), (fun _ => True), (fun _ => True), (fun _ => True), (fun _ => True), (fun _ => True)] : List (World → Prop)).getD ι (fun _ => True))
    (by as_aux_lemma => kernel_rfl) (by as_aux_lemma => kernel_rfl) (fun _ => by as_aux_lemma => kernel_rfl) (fun _ => by as_aux_lemma => kernel_rfl) (fun _ _ hF _ => ⟨hF.1, trivial⟩) ⟨⟨⟨⟨⟨⟨⟨⟨⟨⟨trivial, ?_⟩, ?_⟩, ?_⟩, ?_⟩, ?_⟩, ?_⟩, ?_⟩, ?_⟩, ?_⟩, ?_⟩
  · exact Obl.brings (o_run 0 [] [] (fun _ _ => []) (fun _ _ => by as_aux_lemma => kernel_rfl)) (fun _ _ => trivial)
  · exact Obl.brings (o_run 1 [] [] (fun _ _ => []) (fun _ _ => by as_aux_lemma => kernel_rfl)) (fun _ _ => trivial)
  · exact o_callP 2 13 (fun _ => #[(.slice a (B).length c), (.int .i64 0), (.int .u64 ((q : Nat) : Int))]) (fun _ => (.tuple #[(.int .u64 ((szV B 0 q : Nat) : Int)), (.int .i64 (szN B 0 q)), (.int .i64 (szE B 0 q))])) (fun _ _ => (by as_aux_lemma => kernel_rfl)) (fun _ => (by as_aux_lemma => kernel_rfl)) (fun _ _ => (by as_aux_lemma => kernel_rfl)) (fun _ _ => trivial) (fun _ _ w hG => size_any a c B 0 q (by decide) hBl (by have := hBl; have := hq; omega) w hG.facts0.now.1)
  · exact Obl.brings (o_run 3 [] [] (fun _ _ => []) (fun _ _ => by as_aux_lemma => kernel_rfl)) (fun _ _ => trivial)
  · exact Obl.brings (o_run 4 [] [] (fun _ _ => []) (fun _ _ => by as_aux_lemma => kernel_rfl)) (fun _ _ => trivial)
  · exact Obl.brings (o_run 5 [] [] (fun _ _ => []) (fun _ _ => by as_aux_lemma => kernel_rfl)) (fun _ _ => trivial)
  · exact Obl.brings (o_run 6 [] [] (fun _ _ => []) (fun _ _ => by as_aux_lemma => kernel_rfl)) (fun _ _ => trivial)
  · exact Obl.brings (o_run 7 [] [] (fun _ _ => []) (fun _ _ => by as_aux_lemma => kernel_rfl)) (fun _ _ => trivial)
  · exact Obl.brings (o_run 8 [] [] (fun _ _ => []) (fun _ _ => by as_aux_lemma => kernel_rfl)) (fun _ _ => trivial)
  · exact Obl.brings (o_run 9 [] [] (fun _ _ => []) (fun _ _ => by as_aux_lemma => kernel_rfl)) (fun _ _ => trivial)
theorem codecCanonical_any_r4 (a : Option Addr) (c : Nat) (B : List UInt8) (q : Nat) (w0 : World) (F : World → Prop) : Reg Try.prog 4 (regOps Try.f4 4) false 48 [(0, (.slice a (B).length c)), (1, (.int .u64 ((q : Nat) : Int))), (4, (.bool false)), (5, (.int .u64 ((szV B 0 q : Nat) : Int))), (6, (.int .i64 (szN B 0 q))), (7, (.int .i64 (szE B 0 q)))] w0 [] F
    (fun _ => [(0, (.slice a (B).length c)), (1, (.int .u64 ((q : Nat) : Int))), (4, (.bool false)), (5, (.int .u64 ((szV B 0 q : Nat) : Int))), (6, (.int .i64 (szN B 0 q))), (18, (.bool ((szE B 0 q) != 0)))])
    (fun _ => []) := by
  refine reg_seq [0, 1] [0, 1, 4, 5, 6, 18] 2
    (fun _ ι => ([(.int .i64 (szE B 0 q)), (.bool ((szE B 0 q) != 0))] : List Value).getD ι undef)
    (fun _ ι => ([{}, {}] : List Eff).getD ι {})
    (by as_aux_lemma => kernel_rfl) (by as_aux_lemma => kernel_rfl) (fun _ => by as_aux_lemma => kernel_rfl) (fun _ => by as_aux_lemma => kernel_rfl) ⟨⟨trivial, ?_⟩, ?_⟩
  · exact o_run 0 [] [] (fun _ _ => []) (fun _ _ => by as_aux_lemma => kernel_rfl)
  · exact o_run 1 [] [] (fun _ _ => []) (fun _ _ => by as_aux_lemma => kernel_rfl)
theorem codecCanonical_any_r5 (a : Option Addr) (c : Nat) (B : List UInt8) (q : Nat) (hb1 : ((szE B 0 q) != 0) = true) (w0 : World) (F : World → Prop) : Reg Try.prog 5 (regOps Try.f4 5) false 48 [(0, (.slice a (B).length c)), (1, (.int .u64 ((q : Nat) : Int))), (4, (.bool false)), (5, (.int .u64 ((szV B 0 q : Nat) : Int))), (6, (.int .i64 (szN B 0 q))), (18, (.bool true))] w0 [] F
    (fun _ => [(0, (.slice a (B).length c)), (1, (.int .u64 ((q : Nat) : Int))), (4, (.bool true)), (5, (.int .u64 ((szV B 0 q : Nat) : Int))), (6, (.int .i64 (szN B 0 q)))])
    (fun _ => []) := by
  refine reg_seq [0, 1, 3, 7, 15, 31, 63] [0, 1, 4, 5, 6] 7
    (fun _ ι => ([(.int .u64 ((szV B 0 q : Nat) : Int)), (.bool true), (.bool true), (.int .i64 (szN B 0 q)), (.bool true), (.bool true), (.bool true)] : List Value).getD ι undef)
    (fun _ ι => ([{}, {}, {}, {}, {}, {}, {}] : List Eff).getD ι {})
    (by as_aux_lemma => kernel_rfl) (by as_aux_lemma => kernel_rfl) (fun _ => by as_aux_lemma => kernel_rfl) (fun _ => by as_aux_lemma => kernel_rfl) ⟨⟨⟨⟨⟨⟨⟨trivial, ?_⟩, ?_⟩, ?_⟩, ?_⟩, ?_⟩, ?_⟩, ?_⟩
  · exact o_run 0 [] [] (fun _ _ => []) (fun _ _ => by as_aux_lemma => kernel_rfl)
  · exact o_as 1 (fun _ => (.bool (((szV B 0 q : Nat) : Int) == 0))) (fun _ => (.bool true)) (fun _ _ => by as_aux_lemma => kernel_rfl) (fun _ => congrArg Value.bool (beq_zeroN (szN_zero (bne0 hb1)).2))
  · exact o_run 2 [] [] (fun _ _ => []) (fun _ _ => by as_aux_lemma => kernel_rfl)
  · exact o_run 3 [] [] (fun _ _ => []) (fun _ _ => by as_aux_lemma => kernel_rfl)
  · exact o_as 4 (fun _ => (.bool ((szN B 0 q) == 0))) (fun _ => (.bool true)) (fun _ _ => by as_aux_lemma => kernel_rfl) (fun _ => congrArg Value.bool (beq_zeroI (szN_zero (bne0 hb1)).1))
  · exact o_run 5 [] [] (fun _ _ => []) (fun _ _ => by as_aux_lemma => kernel_rfl)
  · exact o_run 6 [] [] (fun _ _ => []) (fun _ _ => by as_aux_lemma => kernel_rfl)
theorem codecCanonical_any_r6 (a : Option Addr) (c : Nat) (B : List UInt8) (q : Nat) (hBl : B.length ≤ 140737488351232) (hq : q < 18446744073709551616) (hb1 : ((szE B 0 q) != 0) = false) (w0 : World) : RegF Try.prog 6 (regOps Try.f4 6) true 48 [(0, (.slice a (B).length c)), (1, (.int .u64 ((q : Nat) : Int))), (4, (.bool false)), (5, (.int .u64 ((szV B 0 q : Nat) : Int))), (6, (.int .i64 (szN B 0 q))), (18, (.bool false))] w0 [] (fun w => Bs w a c B ∧ True)
    (fun _ => [(4, (.bool true))])
    (fun _ => []) (fun ρ => (fun w => Bs w a c B ∧ Fs w0 w (oa ρ 15) (nb ρ 15) (([] : List UInt8) ++ szB (szV B 0 q)) ∧ Bs w (sadr a 0 c) (c - 0) (mid B 0 ((szN B 0 q).toNat)) ∧ True)) := by
  refine reg_drawn_f [0, 1, 3, 7, 7, 23, 63, 127, 255, 511, 511, 2047, 4095, 8191, 16383, 32767, 65535, 16383, 16383, 409599, 933887, 2097151, 4194303, 8388607] [4] 24
    (fun ρ ι => ([(.int .i64 (szN B 0 q)), (.bool true), (.bool true), (.int .i64 (szN B 0 q)), (.slice a (B).length c), (.int .i64 (((B).length : Nat) : Int)), (.bool true), (.bool true), (.bool true), (.int .u64 ((szV B 0 q : Nat) : Int)), (.int .u64 ((q : Nat) : Int)), (.bool true), (.bool true), (.bool true), (.int .u64 ((szV B 0 q : Nat) : Int)), (.slice (oa ρ 15) (([] : List UInt8) ++ szB (szV B 0 q)).length (nb ρ 15)), (.string (strB (([] : List UInt8) ++ szB (szV B 0 q)))), (.slice a (B).length c), (.int .i64 (szN B 0 q)), (.slice (sadr a 0 c) (mid B 0 ((szN B 0 q).toNat)).length (c - 0)), (.string (strB (mid B 0 ((szN B 0 q).toNat)))), (.bool true), (.bool true), (.bool true)] : List Value).getD ι undef)
    (fun _ ι => ([{}, {}, {}, {}, {}, {}, {}, {}, {}, {}, {}, {}, {}, {}, {}, {}, {}, {}, {}, {}, {}, {}, {}, {}] : List Eff).getD ι {})
    (fun ρ ι => ([(fun _ => True), (fun _ => True), (fun _ => True), (fun _ => True), (fun _ => True), (fun _ => True), (fun _ => True), (fun _ => True), (fun _ => True), (fun _ => True), (fun _ => True), (fun _ => True), (fun _ => True), (fun _ => True), (fun _ => True), (fun w => Fs w0 w (oa ρ 15) (nb ρ 15) (([] : List UInt8) ++ szB (szV B 0 q))), (fun _ => True), (fun _ => True), (fun _ => True), (fun w => Bs w (sadr a 0 c) (c - 0) (mid B 0 ((szN B 0 q).toNat))), (fun _ => True), (fun _ => True), (fun _ => True), (fun _ => True)] : List (World → Prop)).getD ι (fun _ => True))
    (by as_aux_lemma => kernel_rfl) (by as_aux_lemma => kernel_rfl) (by as_aux_lemma => kernel_rfl) (fun _ => by as_aux_lemma => kernel_rfl) (fun _ => by as_aux_lemma => kernel_rfl) (fun _ _ hF hf => ⟨hF.1, hf 15 (by omega), hf 19 (by omega), trivial⟩) ⟨⟨⟨⟨⟨⟨⟨⟨⟨⟨⟨⟨⟨⟨⟨⟨⟨⟨⟨⟨⟨⟨⟨⟨trivial, ?_⟩, ?_⟩, ?_⟩, ?_⟩, ?_⟩, ?_⟩, ?_⟩, ?_⟩, ?_⟩, ?_⟩, ?_⟩, ?_⟩, ?_⟩, ?_⟩, ?_⟩, ?_⟩, ?_⟩, ?_⟩, ?_⟩, ?_⟩, ?_⟩, ?_⟩, ?_⟩, ?_⟩
  · exact Obl.brings (o_run 0 [] [] (fun _ _ => []) (fun _ _ => by as_aux_lemma => kernel_rfl)) (fun _ _ => trivial)
  · exact Obl.brings (o_as 1 (fun _ => (.bool (decide (0 < (szN B 0 q))))) (fun _ => (.bool true)) (fun _ _ => by as_aux_lemma => kernel_rfl) (fun _ => congrArg Value.bool (decide_eq_true (sz_canon (bne0' hb1)).1))) (fun _ _ => trivial)
  · exact Obl.brings (o_run 2 [] [] (fun _ _ => []) (fun _ _ => by as_aux_lemma => kernel_rfl)) (fun _ _ => trivial)
  · exact Obl.brings (o_run 3 [] [] (fun _ _ => []) (fun _ _ => by as_aux_lemma => kernel_rfl)) (fun _ _ => trivial)
  · exact Obl.brings (o_run 4 [] [] (fun _ _ => []) (fun _ _ => by as_aux_lemma => kernel_rfl)) (fun _ _ => trivial)
  · exact Obl.brings (o_run 5 [] [] (fun _ _ => []) (fun _ _ => by as_aux_lemma => kernel_rfl)) (fun _ _ => trivial)
  · exact Obl.brings (o_as 6 (fun _ => (.bool (decide ((szN B 0 q) ≤ (((B).length : Nat) : Int))))) (fun _ => (.bool true)) (fun _ _ => by as_aux_lemma => kernel_rfl) (fun _ => congrArg Value.bool (decide_eq_true (sz_canon (bne0' hb1)).2.1))) (fun _ _ => trivial)
  · exact Obl.brings (o_run 7 [] [] (fun _ _ => []) (fun _ _ => by as_aux_lemma => kernel_rfl)) (fun _ _ => trivial)
  · exact Obl.brings (o_run 8 [] [] (fun _ _ => []) (fun _ _ => by as_aux_lemma => kernel_rfl)) (fun _ _ => trivial)
  · exact Obl.brings (o_run 9 [] [] (fun _ _ => []) (fun _ _ => by as_aux_lemma => kernel_rfl)) (fun _ _ => trivial)
  · exact Obl.brings (o_run 10 [] [] (fun _ _ => []) (fun _ _ => by as_aux_lemma => kernel_rfl)) (fun _ _ => trivial)
  · exact Obl.brings (o_as 11 (fun _ => (.bool (decide (((szV B 0 q : Nat) : Int) ≤ ((q : Nat) : Int))))) (fun _ => (.bool true)) (fun _ _ => by as_aux_lemma => kernel_rfl) (fun _ => congrArg Value.bool (decide_eq_true (Int.ofNat_le.2 (sz_canon (bne0' hb1)).2.2.1)))) (fun _ _ => trivial)
  · exact Obl.brings (o_run 12 [] [] (fun _ _ => []) (fun _ _ => by as_aux_lemma => kernel_rfl)) (fun _ _ => trivial)
  · exact Obl.brings (o_run 13 [] [] (fun _ _ => []) (fun _ _ => by as_aux_lemma => kernel_rfl)) (fun _ _ => trivial)
  · exact Obl.brings (o_run 14 [] [] (fun _ _ => []) (fun _ _ => by as_aux_lemma => kernel_rfl)) (fun _ _ => trivial)
  · exact o_callB 15 15 (fun _ => #[(.slice none 0 0), (.int .u64 ((szV B 0 q : Nat) : Int))]) (fun _ α κ => (.slice α (([] : List UInt8) ++ szB (szV B 0 q)).length κ)) (fun _ => ([] : List UInt8) ++ szB (szV B 0 q)) (fun _ _ => (by as_aux_lemma => kernel_rfl)) (fun _ _ => (by as_aux_lemma => kernel_rfl)) (fun _ _ => (by as_aux_lemma => kernel_rfl)) (fun _ _ => (by as_aux_lemma => kernel_rfl)) (fun _ _ w _ => appsize_any none 0 ([] : List UInt8) (szV B 0 q) (by have := bne0' hb1; have := hBl; have := hq; have := szV_lt B 0 q; omega) (by decide) w Bs.nil)
  · exact o_semF 16 (fun ρ => do pure (Next.value (← convert 22 9 (.slice (oa ρ 15) (([] : List UInt8) ++ szB (szV B 0 q)).length (nb ρ 15))))) (fun _ => (.string (strB (([] : List UInt8) ++ szB (szV B 0 q))))) (fun _ => (by as_aux_lemma => kernel_rfl)) (fun _ => (by as_aux_lemma => kernel_rfl)) (fun ρ _ w hG => str_bytes (xs := ([] : List UInt8) ++ szB (szV B 0 q)) Try.underlying22 Try.underlying5 Try.underlying9 (show Fs w0 w (oa ρ 15) (nb ρ 15) (([] : List UInt8) ++ szB (szV B 0 q)) from (hG.facts 15 rfl).now).1 rfl) (fun _ _ _ _ => persT)
  · exact Obl.brings (o_run 17 [] [] (fun _ _ => []) (fun _ _ => by as_aux_lemma => kernel_rfl)) (fun _ _ => trivial)
  · exact Obl.brings (o_run 18 [] [] (fun _ _ => []) (fun _ _ => by as_aux_lemma => kernel_rfl)) (fun _ _ => trivial)
  · exact o_semF 19 (fun _ => do pure (Next.value (← Instr.sliceAt 22 (.slice a (B).length c) none (some (.int .i64 (szN B 0 q))) none))) (fun _ => (.slice (sadr a 0 c) (mid B 0 ((szN B 0 q).toNat)).length (c - 0))) (fun _ => (by as_aux_lemma => kernel_rfl)) (fun _ => (by as_aux_lemma => kernel_rfl)) (fun _ _ _ hG => slice_bytes (l := 0) (k := (szN B 0 q).toNat) Try.underlying22 u8i hG.facts0.now.1 rfl (Or.inl ⟨rfl, rfl⟩) (Or.inr (congrArg (fun z => some (Value.int .i64 z)) ((by have := bne0' hb1; have := hBl; have := hq; have := szN_rng hBl 0 q; omega)))) ((Nat.zero_le _)) ((by have := bne0' hb1; have := hBl; have := hq; have := szN_rng hBl 0 q; omega))) (fun _ _ w hG => (hG.facts0).mono (fun _ hF => (hF).1.mid ((Nat.zero_le _)) ((by have := bne0' hb1; have := hBl; have := hq; have := szN_rng hBl 0 q; omega))))
  · exact o_semF 20 (fun _ => do pure (Next.value (← convert 22 9 (.slice (sadr a 0 c) (mid B 0 ((szN B 0 q).toNat)).length (c - 0))))) (fun _ => (.string (strB (mid B 0 ((szN B 0 q).toNat))))) (fun _ => (by as_aux_lemma => kernel_rfl)) (fun _ => (by as_aux_lemma => kernel_rfl)) (fun _ _ w hG => str_bytes (xs := mid B 0 ((szN B 0 q).toNat)) Try.underlying22 Try.underlying5 Try.underlying9 (show Bs w (sadr a 0 c) (c - 0) (mid B 0 ((szN B 0 q).toNat)) from (hG.facts 19 rfl).now) rfl) (fun _ _ _ _ => persT)
  · exact Obl.brings (o_bin 21 .eql 9 (fun _ => (.string (strB (([] : List UInt8) ++ szB (szV B 0 q))))) (fun _ => (.string (strB (mid B 0 ((szN B 0 q).toNat))))) (fun _ => (.bool true)) (fun _ => by as_aux_lemma => kernel_rfl) (fun _ _ _ _ => by as_aux_lemma => kernel_rfl) (fun _ w => (eql_str (([] : List UInt8) ++ szB (szV B 0 q)) (mid B 0 ((szN B 0 q).toNat)) w).trans (by rw [show (decide (([] : List UInt8) ++ szB (szV B 0 q) = mid B 0 ((szN B 0 q).toNat))) = true from (decide_eq_true (sz_canon (bne0' hb1)).2.2.2)]))) (fun _ _ => trivial)
  · exact Obl.brings (o_run 22 [] [] (fun _ _ => []) (fun _ _ => by as_aux_lemma => kernel_rfl)) (fun _ _ => trivial)
  · exact Obl.brings (o_run 23 [] [] (fun _ _ => []) (fun _ _ => by as_aux_lemma => kernel_rfl)) (fun _ _ => trivial)
theorem codecCanonical_any (a : Option Addr) (c : Nat) (B : List UInt8) (q : Nat) (hBl : B.length ≤ 140737488351232) (hq : q < 18446744073709551616) (w0 : World) (hf0 : Bs w0 a c B) : Calls Try.prog 4 #[(.slice a (B).length c), (.int .u64 ((q : Nat) : Int))] w0 (fun ε w' => ε = .returned (.bool true) ∧ Below w0.heap.size w0 w') := by
  refine Calls.of_ok (n := 48) (F := (fun w => Bs w a c B ∧ True)) Try.func4 rfl rfl rfl (by simp) (hf0.pers0.and persT) ?_
  refine ok_seq_r (by as_aux_lemma => kernel_rfl) (codecCanonical_any_r1 a c B q _ _) (fun _ => ?_)
  refine ok_seq ?_
  refine ok_seq_r (by as_aux_lemma => kernel_rfl) (codecCanonical_any_r2 a c B q _ _) (fun _ => ?_)
  refine ok_no (by as_aux_lemma => kernel_rfl) ?_
  refine ok_skip ?_
  refine mt_then ?_
  refine ok_seq_rf (by as_aux_lemma => kernel_rfl) (codecCanonical_any_r3 a c B q hBl hq _) (fun _ => ?_)
  refine ok_seq ?_
  refine ok_seq_r (by as_aux_lemma => kernel_rfl) (codecCanonical_any_r4 a c B q _ _) (fun _ => ?_)
  refine ok_cond (b := (szE B 0 q) != 0) (by as_aux_lemma => kernel_rfl) (fun hb1 => ?_) (fun hb1 => ?_)
  ·
    rw [hb1]
    refine ok_seq_r (by as_aux_lemma => kernel_rfl) (codecCanonical_any_r5 a c B q hb1 _ _) (fun _ => ?_)
    refine ok_ret ?_
    refine mt_then_r ?_
    exact meets_ret (v := (.bool true)) [] (dup []) (by as_aux_lemma => kernel_rfl) (by as_aux_lemma => kernel_rfl) (eqs_dup _) (fun _ hS => ⟨rfl, hS.below⟩)
  ·
    rw [hb1]
    refine ok_skip ?_
    refine mt_then ?_
    refine ok_seq_rf (by as_aux_lemma => kernel_rfl) (codecCanonical_any_r6 a c B q hBl hq hb1 _) (fun _ => ?_)
    refine ok_ret ?_
    exact meets_ret (v := (.bool true)) [] (dup []) (by as_aux_lemma => kernel_rfl) (by as_aux_lemma => kernel_rfl) (eqs_dup _) (fun _ hS => ⟨rfl, hS.below⟩)
end Go.Proofs.Ytclccfibfkcagaa
