/- The reference: paths. -/
import Derived.Test.YtokhapaffleffaaDagP
import Derived.Test.YtokhapaffleffaaDsX
import Derived.Test.YtokhapaffleffaaDsQ
namespace Go.Proofs.Ytokhapaffleffaa
open Go.RowKit
open Go.Lib (decDigits)
section
variable {t : TopD} {down : List Bool} {l : List Int} {d x y n a j i : Nat} {p : List Nat}
theorem NxP.at (h : NxP t down l d x (p.drop i) y) (hi : p[i]? = some a) : a ∈ nxtD t down l x d ∧ NxP t down l d (hN t a) (p.drop (i + 1)) y := by
  obtain ⟨hi, e⟩ := List.getElem?_eq_some_iff.1 hi
  rw [List.drop_eq_getElem_cons hi, e] at h
  exact h
end
section
variable {t : TopD} {down : List Bool} {D : List Int} {d a : Nat} {p : List Nat}
end
end Go.Proofs.Ytokhapaffleffaa
