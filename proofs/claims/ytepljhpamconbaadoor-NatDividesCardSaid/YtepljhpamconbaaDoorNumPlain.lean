/- Numbers and their digits to a base, the lowest one first; decimal texts. No program in sight. -/
namespace Go.Proofs.YtepljhpamconbaaDoor

/-- The value of digits. -/
def val (B : Nat) : List Nat → Nat
  | [] => 0
  | d :: ds => d + B * val B ds
/-- The digits without zeros at the upper end. -/
def trimD : List Nat → List Nat
  | [] => []
  | d :: ds => if trimD ds = [] ∧ d = 0 then [] else d :: trimD ds
/-- The digits of a number. -/
def digs (B n : Nat) : List Nat := if h : n = 0 ∨ B < 2 then [] else n % B :: digs B (n / B)
termination_by n
decreasing_by exact Nat.div_lt_self (by omega) (by omega)

section
variable {B : Nat}
theorem digs_zero : digs B 0 = [] := by rw [digs]; simp
theorem digs_pos (hB : 2 ≤ B) {n : Nat} (hn : n ≠ 0) : digs B n = n % B :: digs B (n / B) := by rw [digs, dif_neg (by omega)]
theorem digs_eq_nil (hB : 2 ≤ B) {n : Nat} : digs B n = [] ↔ n = 0 := by
  constructor
  · intro h
    refine Decidable.byContradiction fun hn => ?_
    rw [digs_pos hB hn] at h; cases h
  · rintro rfl; exact digs_zero
theorem val_digs (hB : 2 ≤ B) (n : Nat) : val B (digs B n) = n := by
  induction n using Nat.strongRecOn with
  | ind n ih =>
    by_cases hn : n = 0
    · subst hn; rw [digs_zero]; rfl
    · rw [digs_pos hB hn, val, ih (n / B) (Nat.div_lt_self (by omega) (by omega))]
      exact Nat.mod_add_div n B
theorem digs_lt (hB : 2 ≤ B) (n : Nat) : ∀ d ∈ digs B n, d < B := by
  induction n using Nat.strongRecOn with
  | ind n ih =>
    by_cases hn : n = 0
    · subst hn; rw [digs_zero]; intro d h; cases h
    · rw [digs_pos hB hn]
      intro d hd
      rcases List.mem_cons.1 hd with rfl | hd
      · exact Nat.mod_lt _ (by omega)
      · exact ih (n / B) (Nat.div_lt_self (by omega) (by omega)) d hd
theorem val_append (l m : List Nat) : val B (l ++ m) = val B l + B ^ l.length * val B m := by
  induction l with
  | nil => simp [val]
  | cons d l ih =>
    simp only [List.cons_append, val, ih, List.length_cons, Nat.pow_succ, Nat.mul_add]
    rw [Nat.mul_comm (B ^ l.length) B, Nat.mul_assoc]; omega
theorem val_lt (hB : 2 ≤ B) {l : List Nat} (h : ∀ d ∈ l, d < B) : val B l < B ^ l.length := by
  induction l with
  | nil => simp [val]
  | cons d l ih =>
    have h1 := h d (List.mem_cons_self ..)
    have h2 := ih fun x hx => h x (List.mem_cons_of_mem _ hx)
    simp only [val, List.length_cons, Nat.pow_succ]
    have h3 : B * (val B l + 1) ≤ B * B ^ l.length := Nat.mul_le_mul_left B h2
    rw [Nat.mul_add] at h3
    rw [Nat.mul_comm (B ^ l.length) B]; omega
theorem val_snoc (l : List Nat) (d : Nat) : val B (l ++ [d]) = val B l + B ^ l.length * d := by rw [val_append]; simp [val]
theorem val_replicate (n : Nat) : val B (List.replicate n 0) = 0 := by
  induction n with
  | zero => rfl
  | succ n ih => simp [List.replicate_succ, val, ih]
theorem val_take_drop (l : List Nat) (k : Nat) (h : k ≤ l.length) : val B l = val B (l.take k) + B ^ k * val B (l.drop k) := by
  have := val_append (B := B) (l.take k) (l.drop k)
  rw [List.take_append_drop, List.length_take, Nat.min_eq_left h] at this
  exact this
theorem val_trim (l : List Nat) : val B (trimD l) = val B l := by
  induction l with
  | nil => rfl
  | cons d l ih =>
    unfold trimD
    split
    · rename_i h
      rw [h.1] at ih
      simp only [val] at ih ⊢
      rw [← ih, h.2]; simp
    · simp only [val, ih]
theorem val_eq_zero (hB : 2 ≤ B) {l : List Nat} : val B l = 0 ↔ trimD l = [] := by
  induction l with
  | nil => simp [val, trimD]
  | cons d l ih =>
    unfold trimD
    simp only [val]
    split
    · rename_i h
      have := ih.2 h.1
      rw [this, h.2]; simp
    · rename_i h
      simp only [reduceCtorEq, iff_false]
      intro h0
      have hd : d = 0 := by omega
      have h1 : B * val B l = 0 := by omega
      have h2 : val B l = 0 := by
        rcases Nat.mul_eq_zero.1 h1 with e | e
        · omega
        · exact e
      exact h ⟨ih.1 h2, hd⟩
/-- Digits below the base, trimmed, are the digits of their value. -/
theorem digs_val (hB : 2 ≤ B) {l : List Nat} (h : ∀ d ∈ l, d < B) : digs B (val B l) = trimD l := by
  induction l with
  | nil => simp [val, trimD, digs_zero]
  | cons d l ih =>
    have h1 := h d (List.mem_cons_self ..)
    have h2 := ih fun x hx => h x (List.mem_cons_of_mem _ hx)
    by_cases h0 : val B (d :: l) = 0
    · rw [h0, digs_zero]; exact ((val_eq_zero hB).1 h0).symm
    · rw [digs_pos hB h0]
      have e1 : val B (d :: l) % B = d := by simp only [val]; rw [Nat.add_mul_mod_self_left, Nat.mod_eq_of_lt h1]
      have e2 : val B (d :: l) / B = val B l := by simp only [val]; rw [Nat.add_mul_div_left _ _ (by omega), Nat.div_eq_of_lt h1, Nat.zero_add]
      rw [e1, e2, h2, show trimD (d :: l) = if trimD l = [] ∧ d = 0 then [] else d :: trimD l from rfl, if_neg]
      intro h3
      exact h0 ((val_eq_zero hB).2 (by rw [show trimD (d :: l) = if trimD l = [] ∧ d = 0 then [] else d :: trimD l from rfl, if_pos h3]))
theorem trimD_last {l : List Nat} {d : Nat} (hd : d ≠ 0) : trimD (l ++ [d]) = l ++ [d] := by
  induction l with
  | nil => simp [trimD, hd]
  | cons x l ih => simp only [List.cons_append, trimD, ih]; rw [if_neg (by simp)]
theorem trimD_zero (l : List Nat) : trimD (l ++ [0]) = trimD l := by
  induction l with
  | nil => simp [trimD]
  | cons x l ih => simp only [List.cons_append, trimD, ih]
theorem digs_len_le (hB : 2 ≤ B) : ∀ (k n : Nat), n < B ^ k → (digs B n).length ≤ k
  | 0, n, h => by
    have : n = 0 := by simpa using h
    subst this; rw [digs_zero]; simp
  | k + 1, n, h => by
    by_cases hn : n = 0
    · subst hn; rw [digs_zero]; simp
    · rw [digs_pos hB hn, List.length_cons]
      have := digs_len_le hB k (n / B) (Nat.div_lt_of_lt_mul (by rw [Nat.pow_succ] at h; rw [Nat.mul_comm]; exact h))
      omega
theorem digs_len_ge (hB : 2 ≤ B) : ∀ (k n : Nat), B ^ k ≤ n → k < (digs B n).length
  | 0, n, h => by
    have hn : n ≠ 0 := by simp at h; omega
    rw [digs_pos hB hn]; simp
  | k + 1, n, h => by
    have hp : 0 < B ^ (k + 1) := Nat.pow_pos (by omega)
    have hn : n ≠ 0 := by omega
    rw [digs_pos hB hn, List.length_cons]
    have := digs_len_ge hB k (n / B) ((Nat.le_div_iff_mul_le (by omega)).2 (by rw [Nat.pow_succ] at h; exact h))
    omega
/-- The length decides, then the value of the upper digits. -/
theorem digs_len_mono (hB : 2 ≤ B) {n m : Nat} (h : (digs B n).length < (digs B m).length) : n < m := by
  refine Nat.lt_of_not_le fun hle => ?_
  have h1 := val_lt hB (digs_lt hB n)
  rw [val_digs hB] at h1
  have := digs_len_le hB (digs B n).length m (Nat.lt_of_le_of_lt hle h1)
  omega
theorem digs_inj (hB : 2 ≤ B) {n m : Nat} (h : digs B n = digs B m) : n = m := by rw [← val_digs hB n, h, val_digs hB]
end

/-! ### Decimal texts -/
/-- The decimal text of a number, as characters. -/
def dec (n : Nat) : List UInt8 := if n = 0 then [48] else ((digs 10 n).map fun d => (48 + d).toUInt8).reverse

end Go.Proofs.YtepljhpamconbaaDoor
