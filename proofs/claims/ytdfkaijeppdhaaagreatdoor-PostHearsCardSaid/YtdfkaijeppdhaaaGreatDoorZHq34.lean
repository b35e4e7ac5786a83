/- Texts of this claim, laid together: Ra. -/
import Derived.Test.YtdfkaijeppdhaaaGreatDoorZHq14
import Derived.Test.YtdfkaijeppdhaaaGreatDoorZHq33
import Derived.Lib.ItoaNum
import Derived.Laws.IdiomStrings
import Derived.Deep.RegionHeld3
import Derived.KernelRfl
import Derived.OwnWalk
import Derived.Lib.Hide

/- Contracts of the reference: decimal, cut, natural, IsLine. -/
namespace Go.Proofs.YtdfkaijeppdhaaaGreatDoor
open Go.RowKit Go.Shelf
theorem nDigits_le2 : ∀ (k u : Nat), u < 10 ^ (k + 1) → Lib.nDigits u ≤ k + 1
  | 0, u, h => by rw [Lib.nDigits_small (by simpa using h)]; exact Nat.le_refl _
  | k + 1, u, h => by
    by_cases h1 : u < 10
    · rw [Lib.nDigits_small h1]; omega
    · rw [Lib.nDigits_big h1]
      have := nDigits_le2 k (u / 10) (by rw [Nat.pow_succ] at h; omega)
      omega
theorem itoa_len2 {n : Int} (h0 : -1000000000 ≤ n) (h1 : n ≤ 1000000000) : (Lib.itoa n).length ≤ 11 := by
  have hp : (10 : Nat) ^ 10 = 10000000000 := by decide
  unfold Lib.itoa
  split
  · rw [List.length_cons, Lib.decDigits_length]
    have := nDigits_le2 9 n.natAbs (by omega)
    omega
  · rw [Lib.decDigits_length]
    have := nDigits_le2 9 n.toNat (by omega)
    omega
theorem itoaB_size2 {n : Int} (h0 : -1000000000 ≤ n) (h1 : n ≤ 1000000000) : (itoaB n).size ≤ 11 := by
  have := itoa_len2 h0 h1
  simpa [itoaB, ByteArray.size] using this
end Go.Proofs.YtdfkaijeppdhaaaGreatDoor
