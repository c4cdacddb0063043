/- Merge of the reference walked. -/
import Derived.Test.YtjhgkojbpgakcaaGreatDoorDemB
import Derived.Test.YtjhgkojbpgakcaaGreatDoorDemN
namespace Go.Proofs.YtjhgkojbpgakcaaGreatDoor
open Go.RowKit
open Go.Lib (decDigits)
def zD : Dm := ⟨0, 0, 0, 0⟩
def LtK (ys : List Dm) (k : Nat) (x : Dm) : Prop := ∀ i z, i < k → ys[i]? = some z → keyD z < keyD x
theorem LtK.zero (ys : List Dm) (x : Dm) : LtK ys 0 x := fun _ _ h => absurd h (Nat.not_lt_zero _)
theorem LtK.step {ys : List Dm} {k : Nat} {x y : Dm} (h : LtK ys k x) (hy : ys[k]? = some y) (hl : keyD y < keyD x) : LtK ys (k + 1) x := fun i z hi hz => by
  rcases Nat.lt_or_eq_of_le (Nat.le_of_lt_succ hi) with h1 | rfl
  · exact h i z h1 hz
  · rw [hy] at hz; injection hz with hz; subst hz; exact hl
structure Shf (ys : List Dm) (n : Nat) (zs : List Dm) : Prop where
  len : zs.length = ys.length + 1
  lo : ∀ i, i < n → zs[i]? = ys[i]?
  hi : ∀ i, n < i → zs[i]? = ys[i - 1]?
theorem Shf.start (ys : List Dm) : Shf ys ys.length (snocD ys zD) :=
  ⟨by rw [snocD_len], fun i hi => by unfold snocD; rw [List.getElem?_append_left hi], fun i hi => by unfold snocD; rw [List.getElem?_eq_none (by simp; omega), List.getElem?_eq_none (by omega)]⟩
theorem Shf.step {ys zs : List Dm} {n : Nat} {u : Dm} (h : Shf ys n zs) (hn : 0 < n) (hl : n ≤ ys.length) (hu : zs[n - 1]? = some u) : Shf ys (n - 1) (zs.set n u) := by
  have := h.len
  refine ⟨by rw [List.length_set]; exact h.len, fun i hi => ?_, fun i hi => ?_⟩
  · rw [List.getElem?_set_ne (by omega)]; exact h.lo i (by omega)
  · by_cases e : i = n
    · subst e
      rw [List.getElem?_set_self (by omega), ← hu, h.lo _ (by omega)]
    · rw [List.getElem?_set_ne (by omega)]; exact h.hi i (by omega)
end Go.Proofs.YtjhgkojbpgakcaaGreatDoor
