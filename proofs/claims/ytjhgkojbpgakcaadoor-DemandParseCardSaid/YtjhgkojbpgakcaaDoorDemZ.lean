/- The lists of demands that texts say: the specified reading of a text. No program in sight. -/
import Derived.Test.YtjhgkojbpgakcaaDoorDemT
namespace Go.Proofs.YtjhgkojbpgakcaaDoor
open Go.RowKit
open Go.Lib (decDigits)
def joinC (c : UInt8) : List (List UInt8) → List UInt8
  | [] => []
  | [a] => a
  | a :: b :: r => a ++ c :: joinC c (b :: r)
section
variable {c b : UInt8} {l : List UInt8}
theorem first_c (c : UInt8) : ∀ (l : List UInt8), (∀ d ∈ l, d ≠ c) ∨ ∃ u v, l = u ++ c :: v ∧ ∀ d ∈ u, d ≠ c
  | [] => .inl fun d h => absurd h List.not_mem_nil
  | a :: l => by
    by_cases h : a = c
    · exact .inr ⟨[], l, by rw [h]; rfl, fun d h => absurd h List.not_mem_nil⟩
    · rcases first_c c l with w | ⟨u, v, e, w⟩
      · exact .inl fun d hd => by
          rcases List.mem_cons.1 hd with q | q
          · rw [q]; exact h
          · exact w d q
      · exact .inr ⟨a :: u, v, by rw [e]; rfl, fun d hd => by
          rcases List.mem_cons.1 hd with q | q
          · rw [q]; exact h
          · exact w d q⟩
theorem pieces_ne (c : UInt8) (l : List UInt8) : pieces c l ≠ [] := by
  rcases first_c c l with w | ⟨u, v, rfl, w⟩
  · rw [pieces_no w]; simp
  · rw [pieces_hit w]; simp
theorem join_pieces : joinC c (pieces c l) = l := by
  induction hn : l.length using Nat.strongRecOn generalizing l with
  | ind n ih =>
    rcases first_c c l with w | ⟨u, v, rfl, w⟩
    · rw [pieces_no w]; rfl
    · rw [pieces_hit w]
      have := ih v.length (by rw [← hn]; simp; omega) (l := v) rfl
      cases e : pieces c v with
      | nil => exact absurd e (pieces_ne c v)
      | cons x r => rw [e] at this; show u ++ c :: joinC c (x :: r) = _; rw [this]
def growL : List (List UInt8) → UInt8 → List (List UInt8)
  | [], b => [[b]]
  | [a], b => [a ++ [b]]
  | a :: x :: r, b => a :: growL (x :: r) b
theorem pieces_at : pieces c (l ++ [c]) = pieces c l ++ [[]] := by
  induction hn : l.length using Nat.strongRecOn generalizing l with
  | ind n ih =>
    rcases first_c c l with w | ⟨u, v, rfl, w⟩
    · rw [pieces_no w, pieces_hit w, pieces_no (fun d h => absurd h List.not_mem_nil)]; rfl
    · rw [List.append_assoc, List.cons_append, pieces_hit w, pieces_hit w, ih v.length (by rw [← hn]; simp; omega) (l := v) rfl]; rfl
theorem pieces_grow (hb : b ≠ c) : pieces c (l ++ [b]) = growL (pieces c l) b := by
  induction hn : l.length using Nat.strongRecOn generalizing l with
  | ind n ih =>
    rcases first_c c l with w | ⟨u, v, rfl, w⟩
    · rw [pieces_no w, pieces_no fun d hd => by
        rcases List.mem_append.1 hd with q | q
        · exact w d q
        · rw [List.mem_singleton.1 q]; exact hb]
      rfl
    · rw [List.append_assoc, List.cons_append, pieces_hit w, pieces_hit w, ih v.length (by rw [← hn]; simp; omega) (l := v) rfl]
      cases e : pieces c v with
      | nil => exact absurd e (pieces_ne c v)
      | cons x r => rfl
end
def dgB (b : UInt8) : Bool := decide (48 ≤ b.toNat) && decide (b.toNat ≤ 57)
def valB (l : List UInt8) : Nat := l.foldl (fun n b => 10 * n + (b.toNat - 48)) 0
def numB (l : List UInt8) : Int := if l.length = 0 ∨ 7 < l.length ∨ (1 < l.length ∧ l.head? = some 48) then -1 else if l.all dgB then (valB l : Int) else -1
theorem valB_snoc (l : List UInt8) (b : UInt8) : valB (l ++ [b]) = 10 * valB l + (b.toNat - 48) := by unfold valB; rw [List.foldl_append]; rfl
theorem chrB_of {b : UInt8} (h : dgB b = true) : b = chr (b.toNat - 48) ∧ b.toNat - 48 < 10 := by
  unfold dgB at h
  rw [Bool.and_eq_true, decide_eq_true_eq, decide_eq_true_eq] at h
  refine ⟨UInt8.toNat_inj.1 ?_, by omega⟩
  rw [chr_nat (by omega)]; omega
theorem dec_val : ∀ (n : Nat) (l : List UInt8), l.length = n → l ≠ [] → l.all dgB = true → ¬ (1 < l.length ∧ l.head? = some 48) → decDigits (valB l) = l ∧ (l ≠ [48] → 1 ≤ valB l) := by
  intro n
  induction n with
  | zero => intro l hl hne; exact absurd (List.length_eq_zero_iff.1 hl) hne
  | succ n ih =>
    intro l hl hne hd hz
    obtain ⟨u, b, rfl⟩ : ∃ u b, l = u ++ [b] := ⟨_, _, (List.dropLast_concat_getLast hne).symm⟩
    rw [List.all_append, Bool.and_eq_true] at hd
    have hb : dgB b = true := by simpa using hd.2
    obtain ⟨e1, e2⟩ := chrB_of hb
    rw [valB_snoc]
    by_cases hu : u = []
    · subst hu
      have e3 : valB [] = 0 := rfl
      rw [e3, Nat.mul_zero, Nat.zero_add, dec_small e2, ← e1]
      refine ⟨rfl, fun h => ?_⟩
      refine Nat.pos_of_ne_zero fun w => h ?_
      rw [w] at e1
      rw [e1]; rfl
    · obtain ⟨i1, i2⟩ := ih u (by simpa using hl) hu hd.1 (fun w => hz ⟨by rw [List.length_append]; simp; omega, by
        rw [List.head?_append]
        rw [w.2]; rfl⟩)
      have hu48 : u ≠ [48] := fun w => hz ⟨by rw [w]; simp, by rw [w]; rfl⟩
      have h1 := i2 hu48
      refine ⟨?_, fun _ => by omega⟩
      rw [dec_big (by omega), show (10 * valB u + (b.toNat - 48)) / 10 = valB u by omega, show (10 * valB u + (b.toNat - 48)) % 10 = b.toNat - 48 by omega, i1, ← e1]
theorem num_yes {l : List UInt8} (h : 0 ≤ numB l) : l = decDigits (numB l).toNat := by
  unfold numB at h ⊢
  split at h
  · omega
  · rename_i h1
    rw [if_neg h1]
    split at h
    · rename_i h2
      rw [if_pos h2, Int.toNat_natCast]
      exact (dec_val l.length l rfl (fun e => h1 (.inl (by rw [e]; rfl))) h2 (fun w => h1 (.inr (.inr w)))).1.symm
    · omega
theorem val_dec (n : Nat) : valB (decDigits n) = n := by
  induction n using Nat.strongRecOn with
  | ind n ih =>
    by_cases h : n < 10
    · rw [dec_small h]
      show 10 * 0 + ((chr n).toNat - 48) = n
      rw [chr_nat h]; omega
    · rw [dec_big h, valB_snoc, ih (n / 10) (by omega), chr_nat (by omega)]; omega
theorem dec_head {n : Nat} (h : 1 ≤ n) : (decDigits n).head? ≠ some 48 := by
  induction n using Nat.strongRecOn with
  | ind n ih =>
    by_cases h1 : n < 10
    · rw [dec_small h1]
      intro e
      have e2 : (chr n).toNat = 48 := by rw [Option.some.inj e]; rfl
      rw [chr_nat h1] at e2; omega
    · rw [dec_big h1, List.head?_append]
      have := ih (n / 10) (by omega) (by omega)
      cases e : decDigits (n / 10) with
      | nil => exact absurd e (dec_ne _)
      | cons a r => rw [e] at this; simpa using this
theorem dec_all (n : Nat) : (decDigits n).all dgB = true := by
  induction n using Nat.strongRecOn with
  | ind n ih =>
    have hc : ∀ d, d < 10 → dgB (chr d) = true := fun d hd => by unfold dgB; rw [chr_nat hd]; simp; omega
    by_cases h : n < 10
    · rw [dec_small h]; simp [hc n h]
    · rw [dec_big h, List.all_append, ih (n / 10) (by omega)]; simp [hc (n % 10) (by omega)]
theorem dec_len7 : ∀ (k n : Nat), n < 10 ^ (k + 1) → (decDigits n).length ≤ k + 1 := by
  intro k
  induction k with
  | zero => intro n h; rw [dec_small (by omega)]; simp
  | succ k ih =>
    intro n h
    by_cases h1 : n < 10
    · rw [dec_small h1]; simp
    · rw [dec_big h1, List.length_append]
      have := ih (n / 10) (by rw [Nat.pow_succ] at h; omega)
      simp; omega
theorem num_dec {n : Nat} (h : n < 10000000) : numB (decDigits n) = (n : Int) := by
  unfold numB
  have h1 := dec_len7 6 n h
  rw [if_neg, dec_all, if_pos rfl, val_dec]
  rintro (w | w | ⟨w1, w2⟩)
  · exact dec_ne n (List.length_eq_zero_iff.1 w)
  · omega
  · by_cases h0 : n = 0
    · subst h0; rw [dec_small (by omega)] at w1; simp at w1
    · exact dec_head (by omega) w2
end Go.Proofs.YtjhgkojbpgakcaaDoor
