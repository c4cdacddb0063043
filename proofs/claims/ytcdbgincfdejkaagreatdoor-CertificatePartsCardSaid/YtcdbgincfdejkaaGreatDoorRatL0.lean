/- Lemmas for the laws of rational numbers. -/
import Derived.Test.YtcdbgincfdejkaaGreatDoorRatK
namespace Go.Proofs.YtcdbgincfdejkaaGreatDoor
open Go.RowKit
open Go.Lib (decDigits)
theorem m25 {α : Type _} {a : α} {b0 b1 b2 b3 b4 b5 b6 b7 b8 b9 b10 b11 b12 b13 b14 b15 b16 b17 b18 b19 b20 b21 b22 b23 b24 : α} {l : List α} : a ∈ b0 :: b1 :: b2 :: b3 :: b4 :: b5 :: b6 :: b7 :: b8 :: b9 :: b10 :: b11 :: b12 :: b13 :: b14 :: b15 :: b16 :: b17 :: b18 :: b19 :: b20 :: b21 :: b22 :: b23 :: b24 :: a :: l := ms m24
theorem m26 {α : Type _} {a : α} {b0 b1 b2 b3 b4 b5 b6 b7 b8 b9 b10 b11 b12 b13 b14 b15 b16 b17 b18 b19 b20 b21 b22 b23 b24 b25 : α} {l : List α} : a ∈ b0 :: b1 :: b2 :: b3 :: b4 :: b5 :: b6 :: b7 :: b8 :: b9 :: b10 :: b11 :: b12 :: b13 :: b14 :: b15 :: b16 :: b17 :: b18 :: b19 :: b20 :: b21 :: b22 :: b23 :: b24 :: b25 :: a :: l := ms m25
theorem m27 {α : Type _} {a : α} {b0 b1 b2 b3 b4 b5 b6 b7 b8 b9 b10 b11 b12 b13 b14 b15 b16 b17 b18 b19 b20 b21 b22 b23 b24 b25 b26 : α} {l : List α} : a ∈ b0 :: b1 :: b2 :: b3 :: b4 :: b5 :: b6 :: b7 :: b8 :: b9 :: b10 :: b11 :: b12 :: b13 :: b14 :: b15 :: b16 :: b17 :: b18 :: b19 :: b20 :: b21 :: b22 :: b23 :: b24 :: b25 :: b26 :: a :: l := ms m26
theorem m28 {α : Type _} {a : α} {b0 b1 b2 b3 b4 b5 b6 b7 b8 b9 b10 b11 b12 b13 b14 b15 b16 b17 b18 b19 b20 b21 b22 b23 b24 b25 b26 b27 : α} {l : List α} : a ∈ b0 :: b1 :: b2 :: b3 :: b4 :: b5 :: b6 :: b7 :: b8 :: b9 :: b10 :: b11 :: b12 :: b13 :: b14 :: b15 :: b16 :: b17 :: b18 :: b19 :: b20 :: b21 :: b22 :: b23 :: b24 :: b25 :: b26 :: b27 :: a :: l := ms m27
theorem m29 {α : Type _} {a : α} {b0 b1 b2 b3 b4 b5 b6 b7 b8 b9 b10 b11 b12 b13 b14 b15 b16 b17 b18 b19 b20 b21 b22 b23 b24 b25 b26 b27 b28 : α} {l : List α} : a ∈ b0 :: b1 :: b2 :: b3 :: b4 :: b5 :: b6 :: b7 :: b8 :: b9 :: b10 :: b11 :: b12 :: b13 :: b14 :: b15 :: b16 :: b17 :: b18 :: b19 :: b20 :: b21 :: b22 :: b23 :: b24 :: b25 :: b26 :: b27 :: b28 :: a :: l := ms m28
theorem m30 {α : Type _} {a : α} {b0 b1 b2 b3 b4 b5 b6 b7 b8 b9 b10 b11 b12 b13 b14 b15 b16 b17 b18 b19 b20 b21 b22 b23 b24 b25 b26 b27 b28 b29 : α} {l : List α} : a ∈ b0 :: b1 :: b2 :: b3 :: b4 :: b5 :: b6 :: b7 :: b8 :: b9 :: b10 :: b11 :: b12 :: b13 :: b14 :: b15 :: b16 :: b17 :: b18 :: b19 :: b20 :: b21 :: b22 :: b23 :: b24 :: b25 :: b26 :: b27 :: b28 :: b29 :: a :: l := ms m29
theorem LmQ.zero : LmQ 1 (0 : Rat) := ⟨by show _ < _; decide, by show _ < _; decide⟩
theorem LmQ.one : LmQ 1 (1 : Rat) := ⟨by show _ < _; decide, by show _ < _; decide⟩
theorem LmQ.int {n : Int} (n0 : -9223372036854775808 ≤ n) (n1 : n ≤ 9223372036854775807) : LmQ 2 ((n : Int) : Rat) := by
  rw [← int_of n]
  refine .ofS _ ?_ (Lm.one.up (by decide)) (by decide)
  show _ < _
  have : B32 ^ 2 = 18446744073709551616 := by decide
  omega
theorem LmQ.quo {a b : Nat} {x y : Rat} (hx : LmQ a x) (hy : LmQ b y) : LmQ (a + b) (x / y) := by
  by_cases h : y = 0
  · subst h
    rw [div_zero']
    have hb : 1 ≤ b := by
      rcases Nat.eq_zero_or_pos b with e | e
      · subst e
        have h2 : (0 : Rat).den < B32 ^ 0 := hy.d
        revert h2
        decide
      · exact e
    exact LmQ.zero.up (by omega)
  · exact hx.div hy h
end Go.Proofs.YtcdbgincfdejkaaGreatDoor
