/-
  How arguments of a law are opened: numbers of 256 bits, digests.
-/
import Derived.Test.YtlgjdejlnelndaaEq
import Derived.ProofKit
import Derived.OpenShut
namespace Go.Proofs.Ytlgjdejlnelndaa
open Go Go.ChangeShapes Go.WideShapes Go.RowKit

theorem okWide_array {P : Program} {w : World} {r : Reach} {base : Nat} {t : TypeId} {v : Value} {n : Nat} {e : TypeId} (ht : P.underlying t = some (.array n e)) (h : Value.okWide P w r base t v) : ∃ cs, v = .agg cs ∧ cs.size = P.cellsOf t := by
  simp only [Value.okWide, ht] at h
  obtain ⟨cs, h1, h2, _⟩ := h
  exact ⟨cs, h1, h2⟩
theorem bounds_of_u64 {n : Int} (h : (Lit.int .u64 n).wf = true) : Word n := by
  simp [Lit.wf, IntKind.min, IntKind.max, IntKind.signed, IntKind.bits] at h
  unfold Word; omega
theorem bounds_of_u8 {n : Int} (h : (Lit.int .u8 n).wf = true) : 0 ≤ n ∧ n < 256 := by
  simp [Lit.wf, IntKind.min, IntKind.max, IntKind.signed, IntKind.bits] at h
  omega
/-- The cells of a row of integers that was read. -/
theorem row_ints {H : Type} {enc : TypeId × Value → H} {P : Program} {w : World} {base : Nat} {spare : Nat → Bool} {held : Bool} {fuel : Nat} {t e : TypeId} {n : Nat} {k : IntKind} {cs : List Value} {x : DataW H × List MemPlace}
    (ht : P.underlying t = some (.array n e)) (he : P.underlying e = some (.int k)) (hce : P.cellsOf e = 1) (h : DataW.trod enc P w base spare held fuel t cs = some x) :
    ∀ i, i < n → ∃ z, cs[i]? = some (.int k z) ∧ (Lit.int k z).wf = true := by
  obtain ⟨xs, m, _, _, _, hl, hg⟩ := DataW.trod_array ht h
  intro i hi
  have h1 := hg i hi
  rw [hce, Nat.mul_one, List.getElem?_eq_getElem (by omega)] at h1
  obtain ⟨z, h2, _, h3⟩ := DataW.trod_int he h1
  refine ⟨z, ?_, h3⟩
  have h4 := congrArg (fun l => l[0]?) h2
  simp at h4
  exact h4
theorem open_U {H : Type} {enc : TypeId × Value → H} {w : World} {r : Reach} {base base' : Nat} {spare : Nat → Bool} {held : Bool} {v : Value} {d : DataW H} {p : List MemPlace}
    (hok : Value.okWide Try.prog w r base 24 v) (h : DataW.Trod enc Try.prog w base' spare held 24 v d p) : ∃ A, A < M ∧ v = U A := by
  obtain ⟨cs, rfl, hs⟩ := okWide_array Try.underlying24 hok
  have hs4 : cs.size = 4 := hs.trans (by kernel_rfl)
  obtain ⟨fuel, hf⟩ := h
  have g := row_ints Try.underlying24 Try.underlying22 (by kernel_rfl) hf
  obtain ⟨a, ga, wa⟩ := g 0 (by omega)
  obtain ⟨b, gb, wb⟩ := g 1 (by omega)
  obtain ⟨c, gc, wc⟩ := g 2 (by omega)
  obtain ⟨e, gd, wd'⟩ := g 3 (by omega)
  have Wa := bounds_of_u64 wa; have Wb := bounds_of_u64 wb; have Wc := bounds_of_u64 wc; have Wd := bounds_of_u64 wd'
  refine ⟨ofW a b c e, ofW_lt Wa Wb Wc Wd, ?_⟩
  have hcs : cs = #[.int .u64 a, .int .u64 b, .int .u64 c, .int .u64 e] := by
    simp only [Value.cells, Array.getElem?_toList] at ga gb gc gd
    apply Array.ext_getElem?
    intro i
    rcases (by omega : i = 0 ∨ i = 1 ∨ i = 2 ∨ i = 3 ∨ 4 ≤ i) with rfl | rfl | rfl | rfl | hi
    · rw [ga]; rfl
    · rw [gb]; rfl
    · rw [gc]; rfl
    · rw [gd]; rfl
    · rw [Array.getElem?_eq_none (by omega), Array.getElem?_eq_none (by simpa using hi)]
  rw [hcs]
  exact U_of_sum _ Wa Wb Wc Wd (ofW_sum Wa Wb Wc Wd)
/-- The number of a list of bytes, the highest first. -/
def ofBytes (f : Nat → Nat) : Nat → Nat
  | 0 => 0
  | n + 1 => ofBytes f n * 256 + f n
theorem ofBytes_lt (f : Nat → Nat) (hf : ∀ i, f i < 256) : ∀ n, ofBytes f n < 256 ^ n
  | 0 => by simp [ofBytes]
  | n + 1 => by
    have h := ofBytes_lt f hf n
    have := hf n
    rw [ofBytes, Nat.pow_succ]
    omega
theorem ofBytes_get (f : Nat → Nat) (hf : ∀ i, f i < 256) : ∀ n i, i < n → ofBytes f n / 256 ^ (n - 1 - i) % 256 = f i
  | 0, i, h => by omega
  | n + 1, i, h => by
    have hn := hf n
    by_cases e : i = n
    · subst e
      rw [ofBytes]; simp; omega
    · have ih := ofBytes_get f hf n i (by omega)
      have e1 : n + 1 - 1 - i = (n - 1 - i) + 1 := by omega
      rw [ofBytes, e1, Nat.pow_succ, Nat.mul_comm (256 ^ (n - 1 - i)) 256, ← Nat.div_div_eq_div_mul, show (ofBytes f n * 256 + f n) / 256 = ofBytes f n by omega]
      exact ih
theorem open_H {H : Type} {enc : TypeId × Value → H} {w : World} {r : Reach} {base base' : Nat} {spare : Nat → Bool} {held : Bool} {v : Value} {d : DataW H} {p : List MemPlace}
    (hok : Value.okWide Try.prog w r base 26 v) (h : DataW.Trod enc Try.prog w base' spare held 26 v d p) : ∃ A, A < M ∧ v = .agg (hB A) := by
  obtain ⟨cs, rfl, hs⟩ := okWide_array Try.underlying26 hok
  have hs4 : cs.size = 32 := hs.trans (by kernel_rfl)
  obtain ⟨fuel, hf⟩ := h
  have g := row_ints Try.underlying26 Try.underlying5 (by kernel_rfl) hf
  have g' : ∀ i, ∃ z : Nat, z < 256 ∧ (i < 32 → cs[i]? = some (.int .u8 z)) := by
    intro i
    by_cases hi : i < 32
    · obtain ⟨z, h1, h2⟩ := g i hi
      obtain ⟨b0, b1⟩ := bounds_of_u8 h2
      obtain ⟨z, rfl⟩ := Int.eq_ofNat_of_zero_le b0
      exact ⟨z, by omega, fun _ => by simpa [Value.cells] using h1⟩
    · exact ⟨0, by omega, fun h => absurd h hi⟩
  have hf1 := fun i => (Classical.choose_spec (g' i)).1
  have hf2 := fun i => (Classical.choose_spec (g' i)).2
  generalize (fun i => Classical.choose (g' i)) = f at *
  refine ⟨ofBytes (fun i => Classical.choose (g' i)) 32, ?_, ?_⟩
  · have := ofBytes_lt _ hf1 32
    rw [M_eq]; exact this
  · congr 1
    apply hB_ext hs4
    intro j hj
    rw [hf2 j hj]
    congr 2
    unfold byt
    rw [ofBytes_get _ hf1 32 j hj]
theorem laidOut : laidOutB Try.prog = true := by kernel_rfl
theorem own : ownKnob Try.prog.godebug = none := by kernel_rfl
end Go.Proofs.Ytlgjdejlnelndaa
