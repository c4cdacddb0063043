/- The reference reads rational numbers. -/
import Derived.Test.YtiilkcdefpmimaaGreatDoorRatH
namespace Go.Proofs.YtiilkcdefpmimaaGreatDoor
open Go.RowKit
open Go.Lib (decDigits)
theorem parse49 : parseVal [49] = 1 ∧ parseErr [49] = 0 := by
  have e : decDigits 1 = [49] := by rw [dec_small (by decide)]; rfl
  have h := parse_dec (n := 1) (by rw [e]; decide)
  rw [e] at h
  exact ⟨h.2, h.1⟩
end Go.Proofs.YtiilkcdefpmimaaGreatDoor
