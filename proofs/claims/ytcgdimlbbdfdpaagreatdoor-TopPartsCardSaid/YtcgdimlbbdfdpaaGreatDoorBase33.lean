/-
  What this statement needs, part 33: the texts of it, one behind the other.
-/
import Derived.Test.YtcgdimlbbdfdpaaGreatDoorBase31
set_option maxRecDepth 100000
set_option linter.all false
namespace Go.Proofs.YtcgdimlbbdfdpaaGreatDoor
open Go Go.RowKit
theorem tlP_all : ∀ (s : List Bool), s.length ≤ 3 → TlP s
  | [], _ => fun x y => ⟨by kernel_rfl, by kernel_rfl⟩
  | [true], _ => fun x y => ⟨by kernel_rfl, by kernel_rfl⟩
  | [false], _ => fun x y => ⟨by kernel_rfl, by kernel_rfl⟩
  | [true, true], _ => fun x y => ⟨by kernel_rfl, by kernel_rfl⟩
  | [true, false], _ => fun x y => ⟨by kernel_rfl, by kernel_rfl⟩
  | [false, true], _ => fun x y => ⟨by kernel_rfl, by kernel_rfl⟩
  | [false, false], _ => fun x y => ⟨by kernel_rfl, by kernel_rfl⟩
  | [true, true, true], _ => fun x y => ⟨by kernel_rfl, by kernel_rfl⟩
  | [true, true, false], _ => fun x y => ⟨by kernel_rfl, by kernel_rfl⟩
  | [true, false, true], _ => fun x y => ⟨by kernel_rfl, by kernel_rfl⟩
  | [true, false, false], _ => fun x y => ⟨by kernel_rfl, by kernel_rfl⟩
  | [false, true, true], _ => fun x y => ⟨by kernel_rfl, by kernel_rfl⟩
  | [false, true, false], _ => fun x y => ⟨by kernel_rfl, by kernel_rfl⟩
  | [false, false, true], _ => fun x y => ⟨by kernel_rfl, by kernel_rfl⟩
  | [false, false, false], _ => fun x y => ⟨by kernel_rfl, by kernel_rfl⟩
  | _ :: _ :: _ :: _ :: _, h => absurd h (by simp)
theorem tlE_all : ∀ (s : List Bool), s.length ≤ 3 → TlE s
  | [], _ => fun x y => ⟨by kernel_rfl, by kernel_rfl⟩
  | [true], _ => fun x y => ⟨by kernel_rfl, by kernel_rfl⟩
  | [false], _ => fun x y => ⟨by kernel_rfl, by kernel_rfl⟩
  | [true, true], _ => fun x y => ⟨by kernel_rfl, by kernel_rfl⟩
  | [true, false], _ => fun x y => ⟨by kernel_rfl, by kernel_rfl⟩
  | [false, true], _ => fun x y => ⟨by kernel_rfl, by kernel_rfl⟩
  | [false, false], _ => fun x y => ⟨by kernel_rfl, by kernel_rfl⟩
  | [true, true, true], _ => fun x y => ⟨by kernel_rfl, by kernel_rfl⟩
  | [true, true, false], _ => fun x y => ⟨by kernel_rfl, by kernel_rfl⟩
  | [true, false, true], _ => fun x y => ⟨by kernel_rfl, by kernel_rfl⟩
  | [true, false, false], _ => fun x y => ⟨by kernel_rfl, by kernel_rfl⟩
  | [false, true, true], _ => fun x y => ⟨by kernel_rfl, by kernel_rfl⟩
  | [false, true, false], _ => fun x y => ⟨by kernel_rfl, by kernel_rfl⟩
  | [false, false, true], _ => fun x y => ⟨by kernel_rfl, by kernel_rfl⟩
  | [false, false, false], _ => fun x y => ⟨by kernel_rfl, by kernel_rfl⟩
  | _ :: _ :: _ :: _ :: _, h => absurd h (by simp)
theorem tlR_ : ∀ i : Nat, i < 1 → TlR [] i
  | 0, _ => fun x y => ⟨by kernel_rfl, by kernel_rfl⟩
  | n + 1, h => absurd h (by omega)
theorem tlR_t : ∀ i : Nat, i < 2 → TlR [true] i
  | 0, _ => fun x y => ⟨by kernel_rfl, by kernel_rfl⟩
  | 1, _ => fun x y => ⟨by kernel_rfl, by kernel_rfl⟩
  | n + 2, h => absurd h (by omega)
theorem tlR_f : ∀ i : Nat, i < 2 → TlR [false] i
  | 0, _ => fun x y => ⟨by kernel_rfl, by kernel_rfl⟩
  | 1, _ => fun x y => ⟨by kernel_rfl, by kernel_rfl⟩
  | n + 2, h => absurd h (by omega)
theorem tlR_tt : ∀ i : Nat, i < 3 → TlR [true, true] i
  | 0, _ => fun x y => ⟨by kernel_rfl, by kernel_rfl⟩
  | 1, _ => fun x y => ⟨by kernel_rfl, by kernel_rfl⟩
  | 2, _ => fun x y => ⟨by kernel_rfl, by kernel_rfl⟩
  | n + 3, h => absurd h (by omega)
theorem tlR_tf : ∀ i : Nat, i < 3 → TlR [true, false] i
  | 0, _ => fun x y => ⟨by kernel_rfl, by kernel_rfl⟩
  | 1, _ => fun x y => ⟨by kernel_rfl, by kernel_rfl⟩
  | 2, _ => fun x y => ⟨by kernel_rfl, by kernel_rfl⟩
  | n + 3, h => absurd h (by omega)
theorem tlR_ft : ∀ i : Nat, i < 3 → TlR [false, true] i
  | 0, _ => fun x y => ⟨by kernel_rfl, by kernel_rfl⟩
  | 1, _ => fun x y => ⟨by kernel_rfl, by kernel_rfl⟩
  | 2, _ => fun x y => ⟨by kernel_rfl, by kernel_rfl⟩
  | n + 3, h => absurd h (by omega)
theorem tlR_ff : ∀ i : Nat, i < 3 → TlR [false, false] i
  | 0, _ => fun x y => ⟨by kernel_rfl, by kernel_rfl⟩
  | 1, _ => fun x y => ⟨by kernel_rfl, by kernel_rfl⟩
  | 2, _ => fun x y => ⟨by kernel_rfl, by kernel_rfl⟩
  | n + 3, h => absurd h (by omega)
theorem tlR_ttt : ∀ i : Nat, i < 4 → TlR [true, true, true] i
  | 0, _ => fun x y => ⟨by kernel_rfl, by kernel_rfl⟩
  | 1, _ => fun x y => ⟨by kernel_rfl, by kernel_rfl⟩
  | 2, _ => fun x y => ⟨by kernel_rfl, by kernel_rfl⟩
  | 3, _ => fun x y => ⟨by kernel_rfl, by kernel_rfl⟩
  | n + 4, h => absurd h (by omega)
theorem tlR_ttf : ∀ i : Nat, i < 4 → TlR [true, true, false] i
  | 0, _ => fun x y => ⟨by kernel_rfl, by kernel_rfl⟩
  | 1, _ => fun x y => ⟨by kernel_rfl, by kernel_rfl⟩
  | 2, _ => fun x y => ⟨by kernel_rfl, by kernel_rfl⟩
  | 3, _ => fun x y => ⟨by kernel_rfl, by kernel_rfl⟩
  | n + 4, h => absurd h (by omega)
theorem tlR_tft : ∀ i : Nat, i < 4 → TlR [true, false, true] i
  | 0, _ => fun x y => ⟨by kernel_rfl, by kernel_rfl⟩
  | 1, _ => fun x y => ⟨by kernel_rfl, by kernel_rfl⟩
  | 2, _ => fun x y => ⟨by kernel_rfl, by kernel_rfl⟩
  | 3, _ => fun x y => ⟨by kernel_rfl, by kernel_rfl⟩
  | n + 4, h => absurd h (by omega)
theorem tlR_tff : ∀ i : Nat, i < 4 → TlR [true, false, false] i
  | 0, _ => fun x y => ⟨by kernel_rfl, by kernel_rfl⟩
  | 1, _ => fun x y => ⟨by kernel_rfl, by kernel_rfl⟩
  | 2, _ => fun x y => ⟨by kernel_rfl, by kernel_rfl⟩
  | 3, _ => fun x y => ⟨by kernel_rfl, by kernel_rfl⟩
  | n + 4, h => absurd h (by omega)
theorem tlR_ftt : ∀ i : Nat, i < 4 → TlR [false, true, true] i
  | 0, _ => fun x y => ⟨by kernel_rfl, by kernel_rfl⟩
  | 1, _ => fun x y => ⟨by kernel_rfl, by kernel_rfl⟩
  | 2, _ => fun x y => ⟨by kernel_rfl, by kernel_rfl⟩
  | 3, _ => fun x y => ⟨by kernel_rfl, by kernel_rfl⟩
  | n + 4, h => absurd h (by omega)
theorem tlR_ftf : ∀ i : Nat, i < 4 → TlR [false, true, false] i
  | 0, _ => fun x y => ⟨by kernel_rfl, by kernel_rfl⟩
  | 1, _ => fun x y => ⟨by kernel_rfl, by kernel_rfl⟩
  | 2, _ => fun x y => ⟨by kernel_rfl, by kernel_rfl⟩
  | 3, _ => fun x y => ⟨by kernel_rfl, by kernel_rfl⟩
  | n + 4, h => absurd h (by omega)
theorem tlR_fft : ∀ i : Nat, i < 4 → TlR [false, false, true] i
  | 0, _ => fun x y => ⟨by kernel_rfl, by kernel_rfl⟩
  | 1, _ => fun x y => ⟨by kernel_rfl, by kernel_rfl⟩
  | 2, _ => fun x y => ⟨by kernel_rfl, by kernel_rfl⟩
  | 3, _ => fun x y => ⟨by kernel_rfl, by kernel_rfl⟩
  | n + 4, h => absurd h (by omega)
theorem tlR_fff : ∀ i : Nat, i < 4 → TlR [false, false, false] i
  | 0, _ => fun x y => ⟨by kernel_rfl, by kernel_rfl⟩
  | 1, _ => fun x y => ⟨by kernel_rfl, by kernel_rfl⟩
  | 2, _ => fun x y => ⟨by kernel_rfl, by kernel_rfl⟩
  | 3, _ => fun x y => ⟨by kernel_rfl, by kernel_rfl⟩
  | n + 4, h => absurd h (by omega)
theorem tlR_all : ∀ (s : List Bool), s.length ≤ 3 → ∀ (i : Nat), i < s.length + 1 → TlR s i
  | [], _ => tlR_
  | [true], _ => tlR_t
  | [false], _ => tlR_f
  | [true, true], _ => tlR_tt
  | [true, false], _ => tlR_tf
  | [false, true], _ => tlR_ft
  | [false, false], _ => tlR_ff
  | [true, true, true], _ => tlR_ttt
  | [true, true, false], _ => tlR_ttf
  | [true, false, true], _ => tlR_tft
  | [true, false, false], _ => tlR_tff
  | [false, true, true], _ => tlR_ftt
  | [false, true, false], _ => tlR_ftf
  | [false, false, true], _ => tlR_fft
  | [false, false, false], _ => tlR_fff
  | _ :: _ :: _ :: _ :: _, h => absurd h (by simp)
end Go.Proofs.YtcgdimlbbdfdpaaGreatDoor
