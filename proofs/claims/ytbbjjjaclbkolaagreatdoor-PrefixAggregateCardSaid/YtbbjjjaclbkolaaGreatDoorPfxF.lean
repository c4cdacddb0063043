/- Parse of the reference walked. -/
import Derived.Test.YtbbjjjaclbkolaaGreatDoorPfxP
namespace Go.Proofs.YtbbjjjaclbkolaaGreatDoor
open Go.RowKit
open Go.Lib (decDigits)
theorem txl_nil (x : List UInt8) : x.isEmpty = decide (x = []) := by cases x <;> rfl
theorem isDig_no {c : UInt8} (h : ¬ (48 ≤ (c.toNat : Int) ∧ (c.toNat : Int) ≤ 57)) : ¬ isDig c = true := by unfold isDig; simp; omega
theorem steps {c : UInt8} {k : Nat} {f : Nat → Int} (h : ¬ (48 ≤ (c.toNat : Int) ∧ (c.toNat : Int) ≤ 57)) (hk : k < 4) : stR (k, f) c = (k + 1, f) := (if_neg (isDig_no h)).trans (if_pos hk)
end Go.Proofs.YtbbjjjaclbkolaaGreatDoor
