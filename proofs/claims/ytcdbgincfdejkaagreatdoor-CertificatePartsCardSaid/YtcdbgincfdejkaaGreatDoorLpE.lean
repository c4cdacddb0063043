/- The simplex method: a basis has one tableau only; bounds; what results say. No program in sight. -/
import Derived.Test.YtcdbgincfdejkaaGreatDoorLpD
namespace Go.Proofs.YtcdbgincfdejkaaGreatDoor
section
variable {u t : LObj} {D : Int} {X : Nat}
end
def dotQ : List Rat → List Rat → Rat
  | a :: as, b :: bs => a * b + dotQ as bs
  | _, _ => 0
theorem dotQ_nil (b : List Rat) : dotQ [] b = 0 := by cases b <;> rfl
theorem dotQ_nil' (a : List Rat) : dotQ a [] = 0 := by cases a <;> rfl
theorem dotQ_comm : ∀ a b : List Rat, dotQ a b = dotQ b a
  | [], b => by rw [dotQ_nil, dotQ_nil']
  | a :: as, [] => rfl
  | a :: as, b :: bs => by simp only [dotQ]; rw [dotQ_comm as bs]; grind
theorem dotQ_append : ∀ (a c b d : List Rat), a.length = b.length → dotQ (a ++ c) (b ++ d) = dotQ a b + dotQ c d
  | [], c, [], d, _ => by simp only [List.nil_append, dotQ]; grind
  | [], c, _ :: _, d, h => by simp at h
  | _ :: _, c, [], d, h => by simp at h
  | x :: a, c, y :: b, d, h => by
    have := dotQ_append a c b d (by simpa using h)
    simp only [List.cons_append, dotQ]; rw [this]; grind
theorem dotQ_zeros : ∀ (a : List Rat) (n : Nat), dotQ a (List.replicate n 0) = 0
  | [], n => dotQ_nil _
  | a :: as, 0 => rfl
  | a :: as, n + 1 => by simp only [List.replicate_succ, dotQ]; rw [dotQ_zeros as n]; grind
theorem dotQ_mono : ∀ {y a b : List Rat}, a.length = b.length → (∀ e ∈ y, 0 ≤ e) → (∀ (k : Nat) p q, a[k]? = some p → b[k]? = some q → p ≤ q) → dotQ y a ≤ dotQ y b
  | [], a, b, _, _, _ => by simp only [dotQ_nil]; exact Rat.le_refl
  | y :: ys, [], b, h, _, _ => by obtain rfl := List.eq_nil_of_length_eq_zero h.symm; exact Rat.le_refl
  | y :: ys, a :: as, [], h, _, _ => by simp at h
  | y :: ys, a :: as, b :: bs, h, hy, hk => by
    have ih := dotQ_mono (y := ys) (a := as) (b := bs) (by simpa using h) (fun e he => hy e (List.mem_cons_of_mem _ he)) fun k p q h1 h2 => hk (k + 1) p q h1 h2
    have h0 := Rat.mul_le_mul_of_nonneg_left (hk 0 a b rfl rfl) (hy y (List.mem_cons_self ..))
    simp only [dotQ]
    grind
end Go.Proofs.YtcdbgincfdejkaaGreatDoor
