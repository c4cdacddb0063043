/- Linear programs: what a tableau at the end says of the program. No program in sight. -/
import Derived.Test.YtcdbgincfdejkaaGreatDoorLpE
namespace Go.Proofs.YtcdbgincfdejkaaGreatDoor
structure LPd where
  c : List Rat
  A : List (List Rat)
  b : List Rat
structure LPd.Ok (P : LPd) : Prop where
  hb : P.b.length = P.A.length
  ha : ∀ a ∈ P.A, a.length = P.c.length
section
variable {P : LPd}
theorem LPd.Ok.row (h : P.Ok) {i : Nat} (hi : i < P.A.length) : (P.A.getD i []).length = P.c.length := by
  rw [List.getD, List.getElem?_eq_getElem hi]; exact h.ha _ (List.getElem_mem hi)
variable {s : LObj} {g : LRow}
end
end Go.Proofs.YtcdbgincfdejkaaGreatDoor
