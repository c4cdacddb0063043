/- Lemmas for the laws of rational numbers. -/
import Derived.Test.YtiilkcdefpmimaaGreatDoorRatK
namespace Go.Proofs.YtiilkcdefpmimaaGreatDoor
open Go.RowKit
open Go.Lib (decDigits)
theorem LmQ.zero : LmQ 1 (0 : Rat) := ⟨by show _ < _; decide, by show _ < _; decide⟩
theorem LmQ.one : LmQ 1 (1 : Rat) := ⟨by show _ < _; decide, by show _ < _; decide⟩
theorem LmQ.int {n : Int} (n0 : -9223372036854775808 ≤ n) (n1 : n ≤ 9223372036854775807) : LmQ 2 ((n : Int) : Rat) := by
  rw [← int_of n]
  refine .ofS _ ?_ (Lm.one.up (by decide)) (by decide)
  show _ < _
  have : B32 ^ 2 = 18446744073709551616 := by decide
  omega
end Go.Proofs.YtiilkcdefpmimaaGreatDoor
