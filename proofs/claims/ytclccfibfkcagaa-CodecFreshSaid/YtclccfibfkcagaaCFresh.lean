/-
  What CodecFresh asks of rows.
-/
import Derived.Test.YtclccfibfkcagaaCLaws
import Derived.Test.YtclccfibfkcagaaGhost10
namespace Go.Proofs.Ytclccfibfkcagaa
open Go

theorem fx_len {B : List UInt8} (h : B.length ≤ 140737488351232) : (([] : List UInt8) ++ szB B.length ++ B).length ≤ 140737488351241 := by
  have := szB_len B.length
  simp only [List.length_append, List.length_nil]
  omega
/-- The first i bytes are counted up. -/
def frL (X : List UInt8) (i : Nat) : List UInt8 := (X.take i).map (fun x => ob (((x.toNat + 1) % 256 : Nat) : Int)) ++ X.drop i
def frC (X : List UInt8) (i : Nat) : Array Value := (bs (frL X i)).toArray
theorem frL_length (X : List UInt8) (i : Nat) : (frL X i).length = X.length := by
  simp [frL]; omega
theorem frC_size (X : List UInt8) (i : Nat) : (frC X i).size = X.length := by simp [frC, bs, frL_length]
theorem frC_zero (X : List UInt8) : frC X 0 = (bs X).toArray := by simp [frC, frL]
theorem drop_snoc {X : List UInt8} {i : Nat} (h : i < X.length) : X.drop i = X.getD i 0 :: X.drop (i + 1) := by
  rw [List.drop_eq_getElem_cons h]
  congr 1
  simp [List.getD, List.getElem?_eq_getElem h]
theorem frC_get {X : List UInt8} {i : Nat} (h : i < X.length) : (frC X i)[i]? = some (.int .u8 ((gB X i : Nat) : Int)) := by
  unfold frC frL
  rw [List.getElem?_toArray, bs_app, List.getElem?_append_right (by rw [bs_length, List.length_map, List.length_take]; omega), drop_snoc h]
  rw [bs_length, List.length_map, List.length_take, Nat.min_eq_left (by omega), Nat.sub_self]
  rfl
theorem frC_set {X : List UInt8} {i : Nat} (h : i < X.length) : (frC X i).setIfInBounds i (.int .u8 (((gB X i + 1) % 256 : Nat) : Int)) = frC X (i + 1) := by
  apply Array.ext'
  unfold frC frL
  simp only [Array.toList_setIfInBounds]
  rw [bs_app, List.set_append_right _ _ (by rw [bs_length, List.length_map, List.length_take]; omega), drop_snoc h]
  rw [bs_length, List.length_map, List.length_take, Nat.min_eq_left (by omega), Nat.sub_self]
  rw [take_snoc h, List.map_append, List.append_assoc, bs_app]
  congr 1
  show _ :: _ = bv _ :: bs (X.drop (i + 1))
  rw [bv_ob (by omega)]
  rfl
end Go.Proofs.Ytclccfibfkcagaa
