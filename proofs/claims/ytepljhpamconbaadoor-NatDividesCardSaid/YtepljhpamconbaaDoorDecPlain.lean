/- Decimal texts: groups of digits. No program in sight. -/
import Derived.Lib.ItoaNum
import Derived.Lib.Repeat
namespace Go.Proofs.YtepljhpamconbaaDoor
open Go.Lib (decDigits repeatL)

def chr (d : Nat) : UInt8 := UInt8.ofNat (48 + d)
theorem dec_small {u : Nat} (h : u < 10) : decDigits u = [chr u] := by rw [decDigits, dif_pos h]; rfl
theorem dec_big {u : Nat} (h : ¬ u < 10) : decDigits u = decDigits (u / 10) ++ [chr (u % 10)] := by rw [decDigits, dif_neg h]; rfl
/-- The text of a number in just k digits. -/
def padk : Nat → Nat → List UInt8
  | 0, _ => []
  | k + 1, r => padk k (r / 10) ++ [chr (r % 10)]
theorem padk_length : ∀ k r, (padk k r).length = k
  | 0, _ => rfl
  | k + 1, r => by rw [padk, List.length_append, padk_length k]; rfl
theorem padk_zero : ∀ k, padk k 0 = List.replicate k 48
  | 0 => rfl
  | k + 1 => by
    rw [padk, Nat.zero_div, padk_zero k, List.replicate_succ']; rfl
theorem pow10_div (m k : Nat) : m / 10 ^ (k + 1) = m / 10 / 10 ^ k := by rw [Nat.pow_succ, Nat.mul_comm, Nat.div_div_eq_div_mul]
theorem pow10_mod_div (m k : Nat) : m % 10 ^ (k + 1) / 10 = m / 10 % 10 ^ k := by
  rw [Nat.pow_succ, Nat.mul_comm, Nat.mod_mul_right_div_self]
theorem pow10_mod_mod (m k : Nat) : m % 10 ^ (k + 1) % 10 = m % 10 := by
  rw [Nat.pow_succ, Nat.mod_mod_of_dvd _ (Nat.dvd_mul_left 10 (10 ^ k))]
theorem dec_split : ∀ (k m : Nat), m / 10 ^ k ≠ 0 → decDigits m = decDigits (m / 10 ^ k) ++ padk k (m % 10 ^ k)
  | 0, m, _ => by rw [padk]; simp
  | k + 1, m, h => by
    rw [pow10_div] at h ⊢
    have hm : ¬ m < 10 := fun hlt => h (by rw [Nat.div_eq_of_lt hlt, Nat.zero_div])
    rw [dec_big hm, dec_split k (m / 10) h, padk, pow10_mod_div, pow10_mod_mod, List.append_assoc]
theorem pad_eq : ∀ (k r : Nat), 1 ≤ k → r < 10 ^ k → (decDigits r).length ≤ k ∧ padk k r = List.replicate (k - (decDigits r).length) 48 ++ decDigits r
  | k + 1, r, _, h => by
    by_cases hr : r < 10
    · rw [dec_small hr]
      refine ⟨by simp, ?_⟩
      rw [padk, Nat.div_eq_of_lt hr, padk_zero, Nat.mod_eq_of_lt hr]
      simp
    · have hk : 1 ≤ k := by
        rcases k with _ | k
        · simp at h; omega
        · omega
      have ih := pad_eq k (r / 10) hk (Nat.div_lt_of_lt_mul (by rw [Nat.pow_succ, Nat.mul_comm] at h; exact h))
      rw [dec_big hr, List.length_append]
      refine ⟨by simp; exact ih.1, ?_⟩
      rw [padk, ih.2, List.append_assoc]
      congr 2
      simp
theorem repeat_zero : ∀ n, repeatL [48] n = List.replicate n 48
  | 0 => rfl
  | n + 1 => by rw [repeatL, repeat_zero n]; rfl
theorem dec_ne (n : Nat) : decDigits n ≠ [] := by
  by_cases h : n < 10
  · rw [dec_small h]; simp
  · rw [dec_big h]; simp

/-- The value of a text. -/
def valT (l : List UInt8) : Nat := l.foldl (fun a c => a * 10 + (c.toNat - 48)) 0
theorem valT_snoc (l : List UInt8) (c : UInt8) : valT (l ++ [c]) = valT l * 10 + (c.toNat - 48) := by unfold valT; rw [List.foldl_append]; rfl
theorem chr_nat {d : Nat} (h : d < 10) : (chr d).toNat = 48 + d := by unfold chr; rw [UInt8.toNat_ofNat']; omega
theorem valT_dec (n : Nat) : valT (decDigits n) = n := by
  induction n using Nat.strongRecOn with
  | ind n ih =>
    by_cases h : n < 10
    · rw [dec_small h]
      show 0 * 10 + ((chr n).toNat - 48) = n
      rw [chr_nat h]; omega
    · rw [dec_big h, valT_snoc, ih (n / 10) (by omega), chr_nat (by omega)]; omega
theorem dec_inj {n m : Nat} (h : decDigits n = decDigits m) : n = m := by rw [← valT_dec n, h, valT_dec]
/-- A text of digits. -/
def isDig (c : UInt8) : Bool := decide (48 ≤ c.toNat ∧ c.toNat ≤ 57)
theorem isDig_chr {d : Nat} (h : d < 10) : isDig (chr d) = true := by unfold isDig; rw [chr_nat h]; simp; omega
theorem dec_digs (n : Nat) : ∀ c ∈ decDigits n, isDig c = true := by
  induction n using Nat.strongRecOn with
  | ind n ih =>
    by_cases h : n < 10
    · rw [dec_small h]; intro c hc; simp only [List.mem_cons, List.not_mem_nil, or_false] at hc; rw [hc]; exact isDig_chr h
    · rw [dec_big h]; intro c hc
      rcases List.mem_append.1 hc with h1 | h1
      · exact ih _ (by omega) c h1
      · simp only [List.mem_cons, List.not_mem_nil, or_false] at h1; rw [h1]; exact isDig_chr (by omega)
theorem valT_append (l m : List UInt8) : valT (l ++ m) = valT l * 10 ^ m.length + valT m := by
  suffices h : ∀ n (m : List UInt8), m.length = n → valT (l ++ m) = valT l * 10 ^ m.length + valT m from h _ m rfl
  intro n
  induction n with
  | zero => intro m hm; rw [List.eq_nil_of_length_eq_zero hm]; simp [valT]
  | succ n ih =>
    intro m hm
    have hn : m ≠ [] := fun e => by subst e; cases hm
    obtain ⟨m', c, rfl⟩ : ∃ m' c, m = m' ++ [c] := ⟨m.dropLast, m.getLast hn, (List.dropLast_concat_getLast hn).symm⟩
    rw [← List.append_assoc, valT_snoc, valT_snoc, ih m' (by simpa using hm), List.length_append, List.length_singleton, Nat.pow_succ, ← Nat.mul_assoc]
    rw [Nat.add_mul]; omega
theorem chr_of {c : UInt8} (h : isDig c = true) : chr (c.toNat - 48) = c := by
  unfold isDig at h
  simp only [decide_eq_true_eq] at h
  apply UInt8.toNat_inj.1
  rw [chr_nat (by omega)]; omega
/-- A text of digits that does not begin with '0', or is "0", is the text of its value. -/
theorem dec_valT : ∀ (n : Nat) (l : List UInt8), l.length = n → l ≠ [] → (∀ c ∈ l, isDig c = true) → (l.length = 1 ∨ l.head? ≠ some 48) → decDigits (valT l) = l
  | 0, l, h, hn, _, _ => absurd (List.eq_nil_of_length_eq_zero h) hn
  | n + 1, l, h, hn, hd, h0 => by
    obtain ⟨m, c, rfl⟩ : ∃ m c, l = m ++ [c] := ⟨l.dropLast, l.getLast hn, (List.dropLast_concat_getLast hn).symm⟩
    have hc := hd c (by simp)
    have hv : c.toNat - 48 < 10 := by unfold isDig at hc; simp only [decide_eq_true_eq] at hc; omega
    rw [valT_snoc]
    by_cases hm : m = []
    · subst hm
      show decDigits (0 * 10 + (c.toNat - 48)) = [c]
      rw [Nat.zero_mul, Nat.zero_add, dec_small hv, chr_of hc]
    · have hlm : m.length = n := by simpa using h
      have hpos : 0 < m.length := List.length_pos_iff.2 hm
      have hh : m.head? ≠ some 48 := by
        rcases h0 with h1 | h1
        · rw [List.length_append, List.length_singleton] at h1; omega
        · rcases m with _ | ⟨x, m⟩
          · exact absurd rfl hm
          · exact h1
      have ih := dec_valT n m hlm hm (fun x hx => hd x (by simp [hx])) (.inr hh)
      have hne : valT m ≠ 0 := fun e => by
        rw [e, dec_small (by omega)] at ih
        rw [← ih] at hh; exact hh rfl
      rw [dec_big (by omega), show (valT m * 10 + (c.toNat - 48)) / 10 = valT m by omega, show (valT m * 10 + (c.toNat - 48)) % 10 = c.toNat - 48 by omega, ih, chr_of hc]

end Go.Proofs.YtepljhpamconbaaDoor
