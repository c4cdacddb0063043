/- Long division, a digit of the quotient at a time: the state between the places. No program in sight. -/
import Derived.Test.YtepljhpamconbaaDoorKnuthPlain
namespace Go.Proofs.YtepljhpamconbaaDoor

section
variable {B : Nat}
theorem val_drop' {ds : List Nat} {j : Nat} (hj : j < ds.length) : val B (ds.drop j) = ds[j] + B * val B (ds.drop (j + 1)) := by
  rw [List.drop_eq_getElem_cons hj]; rfl
/-- The upper two digits of the divisor and the upper three of the window. -/
theorem val_top {l : List Nat} {k : Nat} (h : l.length = k + 1) : val B l = val B (l.take k) + B ^ k * l[k] := by
  have := val_take_drop (B := B) l k (by omega)
  rw [val_drop' (by omega), List.drop_of_length_le (by omega)] at this
  simpa [val] using this
theorem val_top2 {l : List Nat} {k : Nat} (h : l.length = k + 2) : val B l = val B (l.take k) + B ^ k * (l[k] + B * l[k + 1]) := by
  have := val_take_drop (B := B) l k (by omega)
  rw [val_drop' (by omega), val_drop' (by omega), List.drop_of_length_le (by omega)] at this
  simpa [val] using this
theorem val_top3 {l : List Nat} {k : Nat} (h : l.length = k + 3) : val B l = val B (l.take k) + B ^ k * (l[k] + B * (l[k + 1] + B * l[k + 2])) := by
  have := val_take_drop (B := B) l k (by omega)
  rw [val_drop' (by omega), val_drop' (by omega), val_drop' (by omega), List.drop_of_length_le (by omega)] at this
  simpa [val] using this
theorem take_lt (hB : 2 ≤ B) {l : List Nat} (h : ∀ d ∈ l, d < B) {k : Nat} (hk : k ≤ l.length) : val B (l.take k) < B ^ k := by
  have := val_lt hB (l := l.take k) (fun d hd => h d (List.mem_of_mem_take hd))
  rwa [List.length_take, Nat.min_eq_left hk] at this

/-- What a guess of a digit of the quotient keeps. -/
structure Guess (B U V v1 v2 top u2 : Nat) : Prop where
  first : U / V ≤ top / v1
  dec : ∀ g r, g * v1 + r = top → U / V ≤ g → (B ≤ g ∨ r * B + u2 < g * v2) → U / V < g
  fin : ∀ g r, g * v1 + r = top → g < B → g * v2 ≤ r * B + u2 → g ≤ U / V + 1
  top1 : top < v1 * B + B
  quo : U / V < B
theorem guess_pack (hB : 2 ≤ B) {vs us : List Nat} {k : Nat} (lv : vs.length = k + 2) (lu : us.length = k + 3) (hv : ∀ d ∈ vs, d < B) (hu : ∀ d ∈ us, d < B) (hlt : val B us < B * val B vs) (h1 : 0 < vs[k + 1]) :
    Guess B (val B us) (val B vs) vs[k + 1] vs[k] (us[k + 2] * B + us[k + 1]) us[k] := by
  have eV := val_top2 (B := B) lv
  have eU := val_top3 (B := B) lu
  have tV := take_lt hB hv (k := k) (by omega)
  have tU := take_lt hB hu (k := k) (by omega)
  have q1 := hv _ (List.getElem_mem (show k < vs.length by omega))
  have q2 := hu _ (List.getElem_mem (show k < us.length by omega))
  have q3 := hu _ (List.getElem_mem (show k + 1 < us.length by omega))
  generalize val B us = U at *
  generalize val B vs = V at *
  generalize vs[k + 1] = v1 at *
  generalize vs[k] = v2 at *
  generalize us[k + 2] = a at *
  generalize us[k + 1] = b at *
  generalize us[k] = u2 at *
  generalize val B (vs.take k) = Vl at *
  generalize val B (us.take k) = Ul at *
  have hP : 0 < B ^ k := Nat.pow_pos (by omega)
  generalize B ^ k = P at *
  have eV' : V = (v1 * B + v2) * P + Vl := by rw [eV, Nat.mul_comm P, Nat.add_comm v2, Nat.mul_comm B]; omega
  have eU' : U = ((a * B + b) * B + u2) * P + Ul := by
    rw [eU, Nat.mul_comm P, show u2 + B * (b + B * a) = (a * B + b) * B + u2 by rw [Nat.mul_comm B (b + B * a), Nat.add_comm b, Nat.mul_comm B a]; omega]; omega
  clear eV eU
  have hV0 : 0 < V := by
    rw [eV']
    have : 1 * 1 ≤ (v1 * B + v2) * P := Nat.mul_le_mul (by have : 1 * 1 ≤ v1 * B := Nat.mul_le_mul h1 (by omega); omega) hP
    omega
  have hquo : U / V < B := by rw [Nat.div_lt_iff_lt_mul hV0]; exact hlt
  have hq : U / V * V ≤ U := Nat.div_mul_le_self U V
  have hU1 : U < ((a * B + b) * B + u2 + 1) * P := by rw [eU', Nat.add_mul _ 1]; omega
  have hU2 : U < ((a * B + b) + 1) * (B * P) := by
    refine Nat.lt_of_lt_of_le hU1 ?_
    rw [← Nat.mul_assoc]
    refine Nat.mul_le_mul_right _ ?_
    rw [Nat.add_mul (a * B + b) 1, Nat.one_mul]; omega
  have hV1 : v1 * (B * P) ≤ V := by rw [eV', Nat.add_mul, ← Nat.mul_assoc]; omega
  refine ⟨guess_ge (Nat.mul_pos (by omega) hP) h1 hU2 hV1 hq, fun g r hg hqg hc => ?_, fun g r hg hgB h => ?_, ?_, hquo⟩
  · rcases hc with hc | hc
    · omega
    · exact guess_dec hU1 (by rw [eV']; omega) hq hg hc
  · exact guess_end hP (by rw [eU']; omega) eV' tV h1 hg hgB h
  · have h5 : (a * B + b) * (B * P) < (v1 * B + B) * (B * P) := by
      have h6 : (a * B + b) * (B * P) ≤ U := by rw [eU', ← Nat.mul_assoc, Nat.add_mul _ u2]; omega
      have h7 : V < (v1 + 1) * (B * P) := by
        rw [eV', ← Nat.mul_assoc, Nat.add_mul v1, Nat.one_mul]
        have h8 : v2 * P + P ≤ B * P := by
          have : (v2 + 1) * P ≤ B * P := Nat.mul_le_mul_right _ q1
          rwa [Nat.add_mul, Nat.one_mul] at this
        rw [Nat.add_mul, Nat.add_mul]
        omega
      have h9 : B * V ≤ B * ((v1 + 1) * (B * P)) := Nat.mul_le_mul_left _ (by omega)
      have h10 : B * ((v1 + 1) * (B * P)) = (v1 * B + B) * (B * P) := by
        rw [← Nat.mul_assoc, show B * (v1 + 1) = v1 * B + B by rw [Nat.mul_add, Nat.mul_comm]; omega]
      omega
    exact Nat.lt_of_mul_lt_mul_right h5

/-- The window of a place. -/
theorem long_split (hB : 2 ≤ B) {ys : List Nat} {j n V : Nat} (hl : j + n + 1 ≤ ys.length) (hy : ∀ d ∈ ys, d < B) (hlt : val B (ys.drop (j + 1)) < V) (hV : V < B ^ n) :
    ys = ys.take j ++ (ys.drop j).take (n + 1) ++ ys.drop (j + n + 1) ∧ ((ys.drop j).take (n + 1)).length = n + 1 ∧ val B (ys.drop (j + n + 1)) = 0 ∧ val B ((ys.drop j).take (n + 1)) = val B (ys.drop j) ∧ val B ((ys.drop j).take (n + 1)) < B * V ∧ ∀ d ∈ (ys.drop j).take (n + 1), d < B := by
  have e0 : (ys.drop j).drop (n + 1) = ys.drop (j + n + 1) := by rw [List.drop_drop]; congr 1
  have hC : val B (ys.drop (j + n + 1)) = 0 := by
    have h1 := val_take_drop (B := B) (ys.drop (j + 1)) n (by rw [List.length_drop]; omega)
    rw [List.drop_drop, show j + 1 + n = j + n + 1 by omega] at h1
    rcases Nat.eq_zero_or_pos (val B (ys.drop (j + n + 1))) with h2 | h2
    · exact h2
    · have : B ^ n * 1 ≤ B ^ n * val B (ys.drop (j + n + 1)) := Nat.mul_le_mul_left _ h2
      omega
  have hU : val B ((ys.drop j).take (n + 1)) = val B (ys.drop j) := by
    have h1 := val_take_drop (B := B) (ys.drop j) (n + 1) (by rw [List.length_drop]; omega)
    rw [e0, hC] at h1
    omega
  refine ⟨?_, by rw [List.length_take, List.length_drop]; omega, hC, hU, ?_, fun d hd => hy d (List.mem_of_mem_drop (List.mem_of_mem_take hd))⟩
  · rw [List.append_assoc, ← e0, List.take_append_drop, List.take_append_drop]
  · rw [hU, val_drop' (by omega)]
    have h1 := hy _ (List.getElem_mem (show j < ys.length by omega))
    have h2 : B * (val B (ys.drop (j + 1)) + 1) ≤ B * V := Nat.mul_le_mul_left _ hlt
    rw [Nat.mul_add] at h2
    omega
/-- The next state. -/
theorem long_next {ys qs us us' C : List Nat} {j V AS : Nat} (he : ys = ys.take j ++ us ++ C) (hj : j ≤ ys.length) (hC : val B C = 0) (hq : j < qs.length) (hr : val B us' = val B us % V)
    (h : val B (qs.drop (j + 1)) * (B ^ (j + 1) * V) + val B ys = AS) :
    val B ((qs.set j (val B us / V)).drop j) * (B ^ j * V) + val B (ys.take j ++ us' ++ C) = AS ∧ val B ((ys.take j ++ us' ++ C).drop j) = val B us % V := by
  have hl : (ys.take j).length = j := by rw [List.length_take]; omega
  have e1 : val B (ys.take j ++ us' ++ C) = val B (ys.take j) + B ^ j * (val B us % V) := by rw [List.append_assoc, val_append, val_append, hC, hl, hr]; simp
  have e2 : val B ys = val B (ys.take j) + B ^ j * val B us := by
    rw [he, List.append_assoc, val_append, val_append, hC, hl]
    rw [List.take_append_of_le_length (by omega), List.take_of_length_le (show (ys.take j).length ≤ j by omega)]
    simp
  refine ⟨?_, by rw [List.append_assoc, List.drop_append_of_le_length (by omega), List.drop_of_length_le (by omega), List.nil_append, val_append, hC, hr]; simp⟩
  have e3 : val B ((qs.set j (val B us / V)).drop j) = val B us / V + B * val B (qs.drop (j + 1)) := by
    rw [val_drop' (by rw [List.length_set]; exact hq), List.getElem_set_self, List.drop_set_of_lt (by omega)]
  rw [e1, e3, ← h, e2]
  have e4 := Nat.div_add_mod (val B us) V
  generalize val B (qs.drop (j + 1)) = Q
  generalize val B us = U at *
  generalize val B (ys.take j) = T
  generalize hq' : U / V = q at *
  generalize hr' : U % V = r at *
  rw [← e4, Nat.pow_succ]
  generalize B ^ j = P
  rw [Nat.add_mul, Nat.mul_add P, show B * Q * (P * V) = Q * (P * B * V) by ac_rfl, show q * (P * V) = P * (V * q) by ac_rfl]
  omega
end
end Go.Proofs.YtepljhpamconbaaDoor
