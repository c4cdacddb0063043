/- What the reference's loops compute: products group by group, the greatest 64-bit number, halves. No program in sight. -/
import Derived.Test.YtepljhpamconbaaDoorNumPlain
namespace Go.Proofs.YtepljhpamconbaaDoor

/-- Group k of a product. -/
def cv : List Nat → List Nat → Nat → Nat
  | [], _, _ => 0
  | a :: _, bs, 0 => a * bs.getD 0 0
  | a :: as, bs, k + 1 => a * bs.getD (k + 1) 0 + cv as bs k
theorem cv_take_succ : ∀ (as bs : List Nat) (k i : Nat) (h : i < as.length), i ≤ k → cv (as.take (i + 1)) bs k = cv (as.take i) bs k + as[i] * bs.getD (k - i) 0
  | a :: as, bs, 0, 0, _, _ => by simp [cv]
  | a :: as, bs, k + 1, 0, _, _ => by simp [cv]
  | a :: as, bs, k + 1, i + 1, h, hi => by
    have := cv_take_succ as bs k i (by simpa using h) (by omega)
    simp only [List.take_succ_cons, cv, List.getElem_cons_succ, this, Nat.add_sub_add_right, Nat.add_assoc]
theorem cv_take : ∀ (as bs : List Nat) (k i : Nat), (as.length ≤ i ∨ k < i) → cv (as.take i) bs k = cv as bs k
  | [], bs, k, i, _ => by simp
  | a :: as, bs, k, 0, h => by simp at h
  | a :: as, bs, 0, i + 1, _ => by simp [cv]
  | a :: as, bs, k + 1, i + 1, h => by
    have := cv_take as bs k i (by simpa using h)
    simp only [List.take_succ_cons, cv, this]
theorem cv_le : ∀ (as bs : List Nat) (k M : Nat), (∀ a ∈ as, a ≤ M) → (∀ b ∈ bs, b ≤ M) → cv as bs k ≤ as.length * (M * M)
  | [], bs, k, M, _, _ => by simp [cv]
  | a :: as, bs, k, M, ha, hb => by
    have hg : ∀ j, bs.getD j 0 ≤ M := fun j => by
      rw [List.getD_eq_getElem?_getD]
      cases h : bs[j]? with
      | none => simp
      | some x => exact hb x (List.mem_of_getElem? h)
    have h1 := ha a (List.mem_cons_self ..)
    rw [List.length_cons, Nat.add_mul, Nat.one_mul]
    cases k with
    | zero =>
      have := Nat.mul_le_mul h1 (hg 0)
      simp only [cv]; omega
    | succ k =>
      have := Nat.mul_le_mul h1 (hg (k + 1))
      have h2 := cv_le as bs k M (fun x hx => ha x (List.mem_cons_of_mem _ hx)) hb
      simp only [cv]; omega
/-- The value of what stands at the places below L. -/
theorem val_range_succ {B : Nat} (f : Nat → Nat) (L : Nat) : val B ((List.range (L + 1)).map f) = f 0 + B * val B ((List.range L).map fun k => f (k + 1)) := by
  rw [List.range_succ_eq_map, List.map_cons, List.map_map]
  rfl
theorem val_add {B : Nat} (f g : Nat → Nat) : ∀ L, val B ((List.range L).map fun k => f k + g k) = val B ((List.range L).map f) + val B ((List.range L).map g)
  | 0 => rfl
  | L + 1 => by
    rw [List.range_succ, List.map_append, List.map_append, List.map_append, val_append, val_append, val_append, val_add f g L]
    simp only [List.length_map, List.length_range, List.map_cons, List.map_nil, val, Nat.mul_zero, Nat.add_zero, Nat.mul_add]
    omega
theorem val_mul {B : Nat} (a : Nat) (f : Nat → Nat) : ∀ L, val B ((List.range L).map fun k => a * f k) = a * val B ((List.range L).map f)
  | 0 => by simp [val]
  | L + 1 => by
    rw [List.range_succ, List.map_append, List.map_append, val_append, val_append, val_mul a f L]
    simp only [List.length_map, List.length_range, List.map_cons, List.map_nil, val, Nat.mul_zero, Nat.add_zero, Nat.mul_add]
    congr 1
    ac_rfl
theorem val_getD {B : Nat} : ∀ (bs : List Nat) (L : Nat), bs.length ≤ L → val B ((List.range L).map fun k => bs.getD k 0) = val B bs
  | [], 0, _ => rfl
  | [], L + 1, _ => by
    rw [val_range_succ]
    have := val_getD (B := B) [] L (Nat.zero_le _)
    simp only [List.getD_eq_getElem?_getD, List.getElem?_nil, Option.getD_none, val] at this ⊢
    rw [this]; simp
  | b :: bs, L + 1, h => by
    rw [val_range_succ]
    have := val_getD (B := B) bs L (by simpa using h)
    simp only [List.getD_eq_getElem?_getD, List.getElem?_cons_zero, Option.getD_some, List.getElem?_cons_succ, val] at this ⊢
    rw [this]
/-- The groups of the product have the product as their value. -/
theorem val_cv {B : Nat} : ∀ (as bs : List Nat) (L : Nat), as.length + bs.length ≤ L + 1 → bs.length ≤ L → val B ((List.range L).map (cv as bs)) = val B as * val B bs
  | [], bs, L, _, _ => by
    have : ∀ L, val B ((List.range L).map (cv [] bs)) = 0 := by
      intro L
      have : (List.range L).map (cv [] bs) = List.replicate L 0 := by
        rw [List.eq_replicate_iff]; simp [cv]
      rw [this, val_replicate]
    rw [this]; simp [val]
  | a :: as, bs, L, h, hb => by
    have e : (List.range L).map (cv (a :: as) bs) = (List.range L).map fun k => a * bs.getD k 0 + (match k with | 0 => 0 | k + 1 => cv as bs k) := by
      refine List.map_congr_left fun k _ => ?_
      cases k <;> simp [cv]
    rw [e, val_add (fun k => a * bs.getD k 0) (fun k => match k with | 0 => 0 | k + 1 => cv as bs k), val_mul, val_getD bs L hb]
    rw [List.length_cons] at h
    cases L with
    | zero =>
      have : bs = [] := List.eq_nil_of_length_eq_zero (by omega)
      subst this; simp [val]
    | succ L =>
      rw [val_range_succ]
      simp only [Nat.zero_add]
      by_cases hbL : bs.length ≤ L
      · rw [val_cv as bs L (by omega) hbL]
        simp only [val, Nat.add_mul, Nat.mul_assoc]
      · have has : as = [] := List.eq_nil_of_length_eq_zero (by omega)
        subst has
        have : (List.range L).map (cv [] bs) = List.replicate L 0 := by
          rw [List.eq_replicate_iff]; simp [cv]
        rw [this, val_replicate]
        simp [val]
end Go.Proofs.YtepljhpamconbaaDoor
