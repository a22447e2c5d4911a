/-
  What this statement needs, part 37: the texts of it, one behind the other.
-/
import Derived.Test.YtcgdimlbbdfdpaaGreatDoorBase34
import Derived.Test.YtcgdimlbbdfdpaaGreatDoorBase35
set_option maxRecDepth 100000
set_option linter.all false
namespace Go.Proofs.YtcgdimlbbdfdpaaGreatDoor
open Go Go.RowKit
theorem tp3_all : ∀ (m : Nat) (bs : List Bool), 1 ≤ m → m ≤ 4 → bs.length = m → wK m bs
  | 1, [true], _, _, _ => t3_t
  | 1, [false], _, _, _ => t3_f
  | 2, [true, true], _, _, _ => t3_tt
  | 2, [true, false], _, _, _ => t3_tf
  | 2, [false, true], _, _, _ => t3_ft
  | 2, [false, false], _, _, _ => t3_ff
  | 3, [true, true, true], _, _, _ => t3_ttt
  | 3, [true, true, false], _, _, _ => t3_ttf
  | 3, [true, false, true], _, _, _ => t3_tft
  | 3, [true, false, false], _, _, _ => t3_tff
  | 3, [false, true, true], _, _, _ => t3_ftt
  | 3, [false, true, false], _, _, _ => t3_ftf
  | 3, [false, false, true], _, _, _ => t3_fft
  | 3, [false, false, false], _, _, _ => t3_fff
  | 4, [true, true, true, true], _, _, _ => t3_tttt
  | 4, [true, true, true, false], _, _, _ => t3_tttf
  | 4, [true, true, false, true], _, _, _ => t3_ttft
  | 4, [true, true, false, false], _, _, _ => t3_ttff
  | 4, [true, false, true, true], _, _, _ => t3_tftt
  | 4, [true, false, true, false], _, _, _ => t3_tftf
  | 4, [true, false, false, true], _, _, _ => t3_tfft
  | 4, [true, false, false, false], _, _, _ => t3_tfff
  | 4, [false, true, true, true], _, _, _ => t3_fttt
  | 4, [false, true, true, false], _, _, _ => t3_fttf
  | 4, [false, true, false, true], _, _, _ => t3_ftft
  | 4, [false, true, false, false], _, _, _ => t3_ftff
  | 4, [false, false, true, true], _, _, _ => t3_fftt
  | 4, [false, false, true, false], _, _, _ => t3_fftf
  | 4, [false, false, false, true], _, _, _ => t3_ffft
  | 4, [false, false, false, false], _, _, _ => t3_ffff
  | 0, _, h, _, _ => absurd h (by omega)
  | n + 5, _, _, h, _ => absurd h (by omega)
  | 1, [], _, _, h => absurd h (by simp)
  | 1, _ :: _ :: _, _, _, h => absurd h (by simp)
  | 2, [], _, _, h => absurd h (by simp)
  | 2, [_], _, _, h => absurd h (by simp)
  | 2, _ :: _ :: _ :: _, _, _, h => absurd h (by simp)
  | 3, [], _, _, h => absurd h (by simp)
  | 3, [_], _, _, h => absurd h (by simp)
  | 3, [_, _], _, _, h => absurd h (by simp)
  | 3, _ :: _ :: _ :: _ :: _, _, _, h => absurd h (by simp)
  | 4, [], _, _, h => absurd h (by simp)
  | 4, [_], _, _, h => absurd h (by simp)
  | 4, [_, _], _, _, h => absurd h (by simp)
  | 4, [_, _, _], _, _, h => absurd h (by simp)
  | 4, _ :: _ :: _ :: _ :: _ :: _, _, _, h => absurd h (by simp)
end Go.Proofs.YtcgdimlbbdfdpaaGreatDoor
