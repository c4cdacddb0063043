/- How many first bits two addresses have in common: plain lemmas. -/
import Derived.Test.YtklkldnpgecajaaTreePlain
namespace Go.Proofs.Ytklkldnpgecajaa

theorem xor_zero {x y : Nat} (h : x ^^^ y = 0) : x = y := by
  have h1 : x ^^^ (x ^^^ y) = x ^^^ 0 := by rw [h]
  rw [← Nat.xor_assoc, Nat.xor_self, Nat.zero_xor, Nat.xor_zero] at h1
  exact h1.symm
theorem pow_pred {L : Nat} (h : 1 ≤ L) : 2 ^ L = 2 * 2 ^ (L - 1) := by
  obtain ⟨k, rfl⟩ : ∃ k, L = k + 1 := ⟨L - 1, by omega⟩
  rw [Nat.add_sub_cancel, Nat.pow_succ]; omega
theorem xor_bits {x y : Nat} (hx : W32 x) (hy : W32 y) : bits BinOp.xor IntKind.u32 (x : Int) (y : Int) = ((x ^^^ y : Nat) : Int) := u32_xor_nat x y hx.lt hy.lt
theorem xor_w32 {x y : Nat} (hx : W32 x) (hy : W32 y) : x ^^^ y ≤ 4294967295 := by
  have := Nat.xor_lt_two_pow (n := 32) hx.lt' hy.lt'
  omega
theorem aux_le : ∀ (f x k : Nat), x < 2 ^ k → Lib.bitLenAux f x ≤ k
  | 0, _, _, _ => Nat.zero_le _
  | f + 1, x, k, h => by
    unfold Lib.bitLenAux
    split
    · exact Nat.zero_le _
    · cases k with
      | zero => simp at h; omega
      | succ k =>
        have := aux_le f (x / 2) k (by rw [Nat.pow_succ] at h; omega)
        omega
theorem aux_lt : ∀ (f x : Nat), x < 2 ^ f → x < 2 ^ Lib.bitLenAux f x
  | 0, _, h => by simpa [Lib.bitLenAux] using h
  | f + 1, x, h => by
    unfold Lib.bitLenAux
    split
    · omega
    · have := aux_lt f (x / 2) (by rw [Nat.pow_succ] at h; omega)
      rw [Nat.add_comm, Nat.pow_succ]
      omega
theorem aux_ge : ∀ (f x : Nat), x < 2 ^ f → x ≠ 0 → 2 ^ (Lib.bitLenAux f x - 1) ≤ x
  | 0, x, h, h0 => by simp at h; omega
  | f + 1, x, h, h0 => by
    unfold Lib.bitLenAux
    rw [if_neg h0, Nat.add_sub_cancel_left]
    by_cases h1 : x / 2 = 0
    · have : Lib.bitLenAux f (x / 2) = 0 := by rw [h1]; cases f <;> simp [Lib.bitLenAux]
      rw [this]
      omega
    · have h2 := aux_ge f (x / 2) (by rw [Nat.pow_succ] at h; omega) h1
      have h3 : 1 ≤ Lib.bitLenAux f (x / 2) := by
        cases f with
        | zero => simp at h; omega
        | succ f => unfold Lib.bitLenAux; rw [if_neg h1]; omega
      have h4 : 2 ^ Lib.bitLenAux f (x / 2) = 2 * 2 ^ (Lib.bitLenAux f (x / 2) - 1) := pow_pred h3
      omega
theorem bitLen32 {x : Nat} (h : x ≤ 4294967295) : Lib.bitLen x ≤ 32 := aux_le 64 x 32 (by omega)
theorem bitLen_lt {x : Nat} (h : x ≤ 4294967295) : x < 2 ^ Lib.bitLen x := aux_lt 64 x (by omega)
theorem bitLen_ge {x : Nat} (h : x ≤ 4294967295) (h0 : x ≠ 0) : 2 ^ (Lib.bitLen x - 1) ≤ x := aux_ge 64 x (by omega) h0
theorem bitLen_pos {x : Nat} (h0 : x ≠ 0) : 1 ≤ Lib.bitLen x := by
  unfold Lib.bitLen Lib.bitLenAux
  rw [if_neg h0]; omega
theorem com_int {ra a : Nat} (h : ra ^^^ a ≤ 4294967295) : (32 : Int) - (Lib.bitLen ((ra ^^^ a : Nat) : Int).toNat : Int) = ((com ra a : Nat) : Int) := by
  have := bitLen32 h
  rw [Int.toNat_natCast]
  unfold com
  omega
theorem com_lt {x y : Nat} (hne : x ≠ y) : com x y < 32 := by
  have h0 : x ^^^ y ≠ 0 := fun h => hne (xor_zero h)
  have := bitLen_pos h0
  unfold com; omega
theorem com_base {x y : Nat} (hx : W32 x) (hy : W32 y) : x / 2 ^ (32 - com x y) = y / 2 ^ (32 - com x y) := by
  have hl := xor_w32 hx hy
  have hL := bitLen32 hl
  have e : 32 - com x y = Lib.bitLen (x ^^^ y) := by unfold com; omega
  rw [e]
  have h0 : (x ^^^ y) / 2 ^ Lib.bitLen (x ^^^ y) = 0 := Nat.div_eq_of_lt (bitLen_lt hl)
  rw [← Nat.shiftRight_eq_div_pow, Nat.shiftRight_xor_distrib] at h0
  have := xor_zero h0
  simpa [Nat.shiftRight_eq_div_pow] using this
theorem com_bit {x y : Nat} (hx : W32 x) (hy : W32 y) (hne : x ≠ y) : bit x (com x y) ≠ bit y (com x y) := by
  have hl := xor_w32 hx hy
  have hL := bitLen32 hl
  have h0 : x ^^^ y ≠ 0 := fun h => hne (xor_zero h)
  have h1 := bitLen_pos h0
  have e : 31 - com x y = Lib.bitLen (x ^^^ y) - 1 := by unfold com; omega
  unfold bit
  rw [e]
  intro hb
  have h2 : (x ^^^ y) / 2 ^ (Lib.bitLen (x ^^^ y) - 1) = 1 := by
    have a1 := bitLen_ge hl h0
    have a2 := bitLen_lt hl
    have a3 : 2 ^ Lib.bitLen (x ^^^ y) = 2 * 2 ^ (Lib.bitLen (x ^^^ y) - 1) := pow_pred h1
    rw [a3] at a2
    have := Nat.div_lt_of_lt_mul (Nat.mul_comm 2 _ ▸ a2)
    have := Nat.div_pos a1 (Nat.two_pow_pos _)
    omega
  rw [← Nat.shiftRight_eq_div_pow, Nat.shiftRight_xor_distrib] at h2
  simp only [Nat.shiftRight_eq_div_pow] at h2
  generalize x / 2 ^ (Lib.bitLen (x ^^^ y) - 1) = p at h2 hb
  generalize y / 2 ^ (Lib.bitLen (x ^^^ y) - 1) = q at h2 hb
  have h3 : (p ^^^ q) % 2 = (p % 2) ^^^ (q % 2) := by
    have := Nat.xor_mod_two_pow (a := p) (b := q) (n := 1)
    simpa using this
  rw [h2, hb, Nat.xor_self] at h3
  cases h3
theorem base_mul (n x : Nat) : base n x = x / 2 ^ (32 - n) * 2 ^ (32 - n) := by
  unfold base
  have := Nat.div_add_mod x (2 ^ (32 - n))
  rw [Nat.mul_comm] at this
  omega
theorem base_mod (n x : Nat) : base n x % 2 ^ (32 - n) = 0 := by rw [base_mul]; exact Nat.mul_mod_left _ _
theorem base_32 (x : Nat) : base 32 x = x := by unfold base; simp [Nat.mod_one]
theorem base_base {m n : Nat} (h : m ≤ n) (hn : n ≤ 32) (x : Nat) : base m (base n x) = base m x := by
  rw [base_mul m (base n x), base_mul m x, base_mul n x]
  obtain ⟨d, hd⟩ : ∃ d, 32 - m = 32 - n + d := ⟨n - m, by omega⟩
  rw [hd, Nat.pow_add, ← Nat.div_div_eq_div_mul, Nat.mul_div_cancel _ (Nat.two_pow_pos _), Nat.div_div_eq_div_mul]
theorem vld_base {n : Nat} (hn : n ≤ 32) (x : Nat) : vld (base n x) (n : Int) = true := vld_iff.2 ⟨by omega, by omega, by rw [Int.toNat_natCast]; exact base_mod n x⟩
/-- What covers another prefix and is not it is shorter. -/
theorem cvr_lt {a n b m : Nat} (hc : cvr a (n : Int) b (m : Int) = true) (hne : ¬ (a = b ∧ n = m)) : n < m ∧ m ≤ 32 := by
  simp only [cvr, cts, Bool.and_eq_true, decide_eq_true_eq] at hc
  obtain ⟨h1, ⟨h2, h3⟩, h4⟩ := hc
  obtain ⟨_, h5, h6⟩ := vld_iff.1 h1
  simp only [Int.toNat_natCast] at h3 h6
  have : base m b = b := base_eq_iff.2 h6
  by_cases e : n = m
  · subst e; rw [h3] at this; exact absurd ⟨this, rfl⟩ hne
  · omega
/-- Two prefixes of which neither covers the other have different addresses. -/
theorem apart_ne {a n b m : Nat} (ha : vld a (n : Int) = true) (hb : vld b (m : Int) = true) (h1 : cvr a (n : Int) b (m : Int) = false) (h2 : cvr b (m : Int) a (n : Int) = false) : a ≠ b := by
  intro e
  subst e
  obtain ⟨_, _, h5⟩ := vld_iff.1 ha
  obtain ⟨_, _, h6⟩ := vld_iff.1 hb
  simp only [Int.toNat_natCast] at h5 h6
  have e1 : base n a = a := base_eq_iff.2 h5
  have e2 : base m a = a := base_eq_iff.2 h6
  simp [cvr, cts, ha, hb, e1, e2] at h1 h2
  omega
theorem bit01 (a n : Nat) : bit a n = 0 ∨ bit a n = 1 := by unfold bit; omega


end Go.Proofs.Ytklkldnpgecajaa
