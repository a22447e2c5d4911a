/-
  How arguments of a law are opened: rows of bytes, strings, integers as naturals.
-/
import Derived.Test.YtlgjdejlnelndaaUint
import Derived.Test.YtlgjdejlnelndaaChecked
import Derived.ProofKit
import Derived.OpenShut
import Derived.SizedLaws
import Derived.ChangeSlices
import Derived.ChangeMaps5
namespace Go.Proofs.Ytlgjdejlnelndaa
open Go Go.ChangeShapes Go.WideShapes Go.RowKit

theorem nat_of_kind {k : IntKind} (hk : k.signed = false) {x : Int} (h : (Lit.int k x).wf = true) : ∃ n : Nat, x = (n : Int) ∧ n < 2 ^ k.bits := by
  have h0 : k.min ≤ x ∧ x ≤ k.max := by simpa [Lit.wf] using h
  have h1 : k.min = 0 := by cases k <;> first | rfl | exact absurd hk (by decide)
  have h2 : k.max = ((2 ^ k.bits : Nat) : Int) - 1 := by cases k <;> first | rfl | exact absurd hk (by decide)
  exact ⟨x.toNat, by omega, by omega⟩
theorem i64_of {x : Int} (h : (Lit.int .i64 x).wf = true) : -9223372036854775808 ≤ x ∧ x < 9223372036854775808 := by
  simp [Lit.wf, IntKind.min, IntKind.max, IntKind.signed, IntKind.bits] at h
  omega
/-- A slice of bytes that was read. -/
theorem open_bytes {H : Type} {enc : TypeId × Value → H} {w : World} {r : Reach} {base base' : Nat} {held : Bool} {v : Value} {d : DataW H} {p : List MemPlace}
    (hok : Value.okWide Try.prog w r base 64 v) (h : DataW.Trod enc Try.prog w base' (fun _ => true) held 64 v d p) (hs : ∀ elems spare, d = .slice elems spare → elems.length + spare.length ≤ 140737488351232) :
    ∃ a c xs, v = .slice a (List.length xs) c ∧ Bs w a c xs := by
  obtain ⟨a0, len, cap, rfl⟩ := okWide_slice Try.underlying64 hok
  obtain ⟨fuel, hf⟩ := h
  rcases open_ints Try.underlying64 Try.underlying5 (by kernel_rfl) hf with ⟨hcs, _⟩ | ⟨a, len', cap', zs, hcs, _, hle, _, hlen, hx, hcell, hwf⟩
  · simp [Value.cells] at hcs
    obtain ⟨rfl, rfl, rfl⟩ := hcs
    exact ⟨none, 0, [], rfl, Bs.nil⟩
  · simp [Value.cells] at hcs
    obtain ⟨rfl, rfl, rfl⟩ := hcs
    simp only [if_true] at hlen
    have hd := congrArg Prod.fst hx
    have hsz := hs _ _ hd
    have hsz' : zs.length ≤ 140737488351232 := by simpa [lits, hlen, hle] using hsz
    refine ⟨some a, cap, (zs.take len).map ob, ?_, ?_, ?_, ?_⟩
    · rw [List.length_map, List.length_take, Nat.min_eq_left (by omega)]
    · rw [List.length_map, List.length_take]; omega
    · rw [List.length_map, List.length_take]; omega
    · refine Or.inr ⟨a, rfl, ?_⟩
      intro i u hu
      obtain ⟨x, hx1, rfl⟩ := bs_get hu
      rw [List.getElem?_map] at hx1
      obtain ⟨z, hz, rfl⟩ := Option.map_eq_some_iff.1 hx1
      have hi : i < zs.length := by
        have := (List.getElem?_eq_some_iff.1 hz).1
        rw [List.length_take] at this
        omega
      have hzi : zs.getD i 0 = z := by
        rw [List.getElem?_take] at hz
        split at hz
        · simp [List.getD, hz]
        · exact absurd hz (by simp)
      rw [hcell i hi, hzi]
      have hm : z ∈ zs := by
        have := List.mem_of_getElem? hz
        exact List.mem_of_mem_take this
      have hw := hwf z hm
      simp [Lit.wf, IntKind.min, IntKind.max, IntKind.signed, IntKind.bits] at hw
      rw [bv_ob (by omega)]
theorem open_str {H : Type} {enc : TypeId × Value → H} {w : World} {r : Reach} {base base' : Nat} {sp : Nat → Bool} {held : Bool} {v : Value} {d : DataW H} {p : List MemPlace}
    (hok : Value.okWide Try.prog w r base 9 v) (h : DataW.Trod enc Try.prog w base' sp held 9 v d p) (hs : ∀ l, d = .lit (.string l) → l.length ≤ 140737488351232) :
    ∃ S, v = .string (strB S) ∧ S.length ≤ 140737488351232 := by
  obtain ⟨s, rfl, rfl, _, _⟩ := Go.ChangeMaps.open_string Try.underlying9 hok h
  exact ⟨s.data.toList, by rw [strB_self], hs _ rfl⟩
end Go.Proofs.Ytlgjdejlnelndaa
