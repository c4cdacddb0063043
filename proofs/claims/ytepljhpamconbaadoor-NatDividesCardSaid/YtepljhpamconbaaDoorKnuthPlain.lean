/- Long division, a digit of the quotient at a time: what guess, reduce and the shifts compute. No program in sight. -/
import Derived.Test.YtepljhpamconbaaDoorNumPlain
namespace Go.Proofs.YtepljhpamconbaaDoor

/-- The first guess is not too small. -/
theorem guess_ge {q V U top v1 P : Nat} (hP : 0 < P) (hv : 0 < v1) (hU : U < (top + 1) * P) (hV : v1 * P ≤ V) (hq : q * V ≤ U) : q ≤ top / v1 := by
  rw [Nat.le_div_iff_mul_le hv]
  have h1 : q * v1 * P ≤ q * V := by rw [Nat.mul_assoc]; exact Nat.mul_le_mul_left _ hV
  have h2 : q * v1 * P < (top + 1) * P := by omega
  have := Nat.lt_of_mul_lt_mul_right h2
  omega
/-- A guess that fails the test is too great. -/
theorem guess_dec {q V U top v1 v2 u2 B P g rest : Nat} (hU : U < (top * B + u2 + 1) * P) (hV : (v1 * B + v2) * P ≤ V) (hq : q * V ≤ U) (hg : g * v1 + rest = top) (h : rest * B + u2 < g * v2) : q < g := by
  refine Nat.lt_of_not_le fun hle => ?_
  have h1 : g * (v1 * B + v2) * P ≤ q * V := by
    rw [Nat.mul_assoc]
    exact Nat.mul_le_mul hle hV
  have h2 : g * (v1 * B + v2) < top * B + u2 + 1 := Nat.lt_of_mul_lt_mul_right (a := P) (by omega)
  rw [← hg, Nat.mul_add, Nat.add_mul, ← Nat.mul_assoc] at h2
  omega
/-- A guess that passes the test is too great by at most one. -/
theorem guess_end {V U top v1 v2 u2 B P g rest Vl : Nat} (hP : 0 < P) (hU : (top * B + u2) * P ≤ U) (hV : V = (v1 * B + v2) * P + Vl) (hVl : Vl < P) (hv : 0 < v1) (hg : g * v1 + rest = top) (hgB : g < B) (h : g * v2 ≤ rest * B + u2) : g ≤ U / V + 1 := by
  have hVP : B * P ≤ V := by
    rw [hV]
    have h1 : 1 * B ≤ v1 * B := Nat.mul_le_mul_right _ hv
    have h2 : (1 * B) * P ≤ (v1 * B + v2) * P := Nat.mul_le_mul_right _ (by omega)
    rw [Nat.one_mul] at h2
    omega
  have hV0 : 0 < V := Nat.lt_of_lt_of_le (Nat.mul_pos (by omega) hP) hVP
  have h1 : g * (v1 * B + v2) ≤ top * B + u2 := by
    rw [← hg, Nat.mul_add, Nat.add_mul, ← Nat.mul_assoc]; omega
  have h2 : g * (v1 * B + v2) * P ≤ U := Nat.le_trans (Nat.mul_le_mul_right _ h1) hU
  have h3 : g * Vl ≤ g * P := Nat.mul_le_mul_left _ (by omega)
  have h4 : g * P ≤ B * P := Nat.mul_le_mul_right _ (by omega)
  have h5 : g * V = g * (v1 * B + v2) * P + g * Vl := by rw [hV, Nat.mul_add, Nat.mul_assoc]
  have h6 : g * V ≤ U + V := by omega
  refine Nat.le_of_not_lt fun hlt => ?_
  have h7 : (U / V + 2) * V ≤ g * V := Nat.mul_le_mul_right _ hlt
  have h8 : U < V * (U / V) + V := by have := Nat.div_add_mod U V; have := Nat.mod_lt U hV0; omega
  rw [Nat.add_mul, Nat.mul_comm (U / V)] at h7
  omega
/-- The carry of a guess that left the loop by its rest. -/
theorem guess_break {B top v1 g rest : Nat} (hg : g * v1 + rest = top) (ht : top < v1 * B + B) (hr : B ≤ rest) : g < B := by
  refine Nat.lt_of_not_le fun hle => ?_
  have : B * v1 ≤ g * v1 := Nat.mul_le_mul_right _ hle
  rw [Nat.mul_comm v1] at ht
  omega
theorem test_break {B v2 u2 g rest : Nat} (hg : g < B) (hv : v2 < B) (hr : B ≤ rest) : g * v2 ≤ rest * B + u2 := by
  have h1 : g * v2 ≤ B * B := Nat.mul_le_mul (by omega) (by omega)
  have h2 : B * B ≤ rest * B := Nat.mul_le_mul_right _ hr
  omega

/-- One place of reduce's first loop. -/
theorem red_step {B u p b v q : Nat} (hB : 0 < B) (hu : u < B) (hb : b ≤ 1) :
    (u + B - (p + v * q) % B - b) % B + v * q + p + b = u + B * ((if u < (p + v * q) % B + b then 1 else 0) + (p + v * q) / B) := by
  generalize hpr : p + v * q = pr
  have h1 : B * (pr / B) + pr % B = pr := Nat.div_add_mod pr B
  have h2 : pr % B < B := Nat.mod_lt _ hB
  have hx : (u + B - pr % B - b) % B + pr % B + b = u + B * (if u < pr % B + b then 1 else 0) := by
    split
    · rw [Nat.mod_eq_of_lt (by omega)]; omega
    · rw [show u + B - pr % B - b = (u - pr % B - b) + B by omega, Nat.add_mod_right, Nat.mod_eq_of_lt (by omega)]; omega
  rw [Nat.mul_add]
  generalize (if u < pr % B + b then 1 else 0) = t at *
  omega

/-- What reduce leaves, if nothing is borrowed at the end. -/
theorem red_done {U V q X T : Nat} (h : X + q * V = U + T * 0) (hge : U / V ≤ q) (hV : 0 < V) : q = U / V ∧ X = U % V := by
  have h1 := Nat.div_add_mod U V
  have h2 := Nat.mod_lt U hV
  have hle : q ≤ U / V := by rw [Nat.le_div_iff_mul_le hV]; omega
  have e : q = U / V := by omega
  refine ⟨e, ?_⟩
  rw [e, Nat.mul_comm (U / V)] at h
  omega
/-- What it leaves after the divisor was added back. -/
theorem red_back {U V q X Y T c : Nat} (h : X + q * V = U + T * 1) (hX : X < T) (hY : Y < T) (hVT : V ≤ T) (h2 : Y + T * c = X + V) (hle : q ≤ U / V + 1) (hV : 0 < V) : q = U / V + 1 ∧ Y = U % V := by
  have h1 := Nat.div_add_mod U V
  have h3 := Nat.mod_lt U hV
  have hgt : U / V < q := by
    refine Nat.lt_of_not_le fun hle' => ?_
    have : q * V ≤ U / V * V := Nat.mul_le_mul_right _ hle'
    rw [Nat.mul_comm (U / V)] at this
    omega
  have e : q = U / V + 1 := by omega
  refine ⟨e, ?_⟩
  rw [e, Nat.add_mul, Nat.mul_comm (U / V)] at h
  have e2 : Y + T * c = U % V + T := by omega
  have e3 : c = 1 := by
    match c with
    | 0 => omega
    | 1 => rfl
    | c + 2 =>
      have : T * 2 ≤ T * (c + 2) := Nat.mul_le_mul_left _ (by omega)
      omega
  rw [e3] at e2
  omega

/-- Digits that are shifted up: the place's value and what is carried. -/
theorem shl_step {B S x low : Nat} (hS : 0 < S) (hBS : S ∣ B) (hB : 0 < B) (hx : x < B) (hl : low < S) : x * S % B + low < B ∧ x * S / B < S ∧ (x * S % B + low) + B * (x * S / B) = x * S + low := by
  have h1 := Nat.div_add_mod (x * S) B
  refine ⟨?_, ?_, by omega⟩
  · obtain ⟨t, rfl⟩ := hBS
    rw [Nat.mul_comm x S, Nat.mul_mod_mul_left]
    have ht : 0 < t := Nat.pos_of_mul_pos_left hB |> fun h => by
      rcases Nat.eq_zero_or_pos t with h0 | h0
      · subst h0; simp at hB
      · exact h0
    have h2 := Nat.mod_lt x ht
    have h3 : S * (x % t + 1) ≤ S * t := Nat.mul_le_mul_left _ h2
    rw [Nat.mul_add] at h3
    omega
  · rw [Nat.div_lt_iff_lt_mul hB, Nat.mul_comm S]
    exact Nat.mul_lt_mul_of_pos_right hx hS
/-- A digit that is shifted down. -/
theorem shr_step {B S d D : Nat} (hS : 0 < S) (hBS : S ∣ B) (hB : 0 < B) (hd : d < B) : (d + B * D) / S = ((D % B) * B + d) / S % B + B * (D / S) := by
  have h1 : (d + B * D) / S / B = D / S := by
    rw [Nat.div_div_eq_div_mul, Nat.mul_comm S B, ← Nat.div_div_eq_div_mul, Nat.add_mul_div_left _ _ hB, Nat.div_eq_of_lt hd, Nat.zero_add]
  have h2 : (d + B * D) / S % B = ((D % B) * B + d) / S % B := by
    obtain ⟨t, ht⟩ := hBS
    have e : d + B * D = ((D % B) * B + d) + S * (B * (t * (D / B))) := by
      have h3 := Nat.div_add_mod D B
      have h4 : S * (B * (t * (D / B))) = B * (B * (D / B)) := by
        rw [show S * (B * (t * (D / B))) = B * ((S * t) * (D / B)) by ac_rfl, ← ht]
      rw [h4]
      have h5 : B * D = B * (B * (D / B)) + B * (D % B) := by rw [← Nat.mul_add, h3]
      rw [h5, Nat.mul_comm (D % B)]
      omega
    rw [e, Nat.add_mul_div_left _ _ hS, Nat.add_mul_mod_self_left]
  rw [← h2, ← h1, Nat.mod_add_div]
/-- The quotient and the remainder of shifted numbers. -/
theorem div_shifted {A b S q r : Nat} (hS : 0 < S) (hb : 0 < b) (h : q * (b * S) + r = A * S) (hr : r < b * S) : q = A / b ∧ r = A % b * S := by
  have e : A * S = (A / b) * (b * S) + A % b * S := by
    have h1 := Nat.div_add_mod A b
    rw [← Nat.mul_assoc, ← Nat.add_mul, Nat.mul_comm (A / b) b, h1]
  have h2 : A % b * S < b * S := Nat.mul_lt_mul_of_pos_right (Nat.mod_lt _ hb) hS
  have hbS : 0 < b * S := Nat.mul_pos hb hS
  have h3 : (q * (b * S) + r) / (b * S) = q := by rw [Nat.add_comm, Nat.add_mul_div_right _ _ hbS, Nat.div_eq_of_lt hr, Nat.zero_add]
  have h4 : ((A / b) * (b * S) + A % b * S) / (b * S) = A / b := by rw [Nat.add_comm, Nat.add_mul_div_right _ _ hbS, Nat.div_eq_of_lt h2, Nat.zero_add]
  have e2 : q = A / b := by rw [← h3, h, e, h4]
  refine ⟨e2, ?_⟩
  rw [e2] at h
  omega
end Go.Proofs.YtepljhpamconbaaDoor
