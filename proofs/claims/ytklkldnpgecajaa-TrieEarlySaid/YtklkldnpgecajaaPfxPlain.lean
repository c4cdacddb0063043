/- Plain lemmas on prefixes of addresses of 32 bits: no program in sight. -/
import Derived.Laws.BitsAllLaws
namespace Go.Proofs.Ytklkldnpgecajaa

/-- An address: a number of 32 bits. -/
def W32 (a : Nat) : Prop := a < 4294967296
theorem W32.lt {a : Nat} (h : W32 a) : a < 4294967296 := h
theorem W32.lt' {a : Nat} (h : W32 a) : a < 2 ^ 32 := h

/-- The mask of a length. -/
def mk (n : Nat) : Nat := 4294967296 - 2 ^ (32 - n)
def maskI (n : Int) : Int := IntKind.u64.wrap (4294967295 * 2 ^ (32 - n).toNat) % 4294967296

theorem maskI_nat (n : Nat) (h : n ≤ 32) : maskI n = ((mk n : Nat) : Int) := by
  have H : ∀ m : Fin 33, maskI ((m.val : Nat) : Int) = ((mk m.val : Nat) : Int) := by decide +kernel
  exact H ⟨n, by omega⟩
theorem mk_w32 (n : Nat) : W32 (mk n) := by
  have : 0 < 2 ^ (32 - n) := Nat.two_pow_pos _
  unfold W32 mk; omega
theorem pow_le (n : Nat) : 2 ^ (32 - n) ≤ 4294967296 := by
  have : 2 ^ (32 - n) ≤ 2 ^ 32 := Nat.pow_le_pow_right (by omega) (by omega)
  simpa using this

/-- The first address of the block of a length in which an address lies. -/
def base (n x : Nat) : Nat := x - x % 2 ^ (32 - n)

theorem and_mk (x n : Nat) (hx : W32 x) (h : n ≤ 32) : x &&& mk n = base n x := by
  have e1 : mk n = (2 ^ n - 1) * 2 ^ (32 - n) := by
    have : 2 ^ n * 2 ^ (32 - n) = 4294967296 := by
      rw [← Nat.pow_add, show n + (32 - n) = 32 by omega]
    unfold mk
    rw [Nat.sub_mul, this, Nat.one_mul]
  have e2 : base n x = x / 2 ^ (32 - n) * 2 ^ (32 - n) := by
    unfold base
    have := Nat.div_add_mod x (2 ^ (32 - n))
    rw [Nat.mul_comm] at this
    omega
  rw [e1, e2]
  apply Nat.eq_of_testBit_eq
  intro i
  rw [Nat.testBit_and, ← Nat.shiftLeft_eq, ← Nat.shiftLeft_eq, Nat.testBit_shiftLeft, Nat.testBit_shiftLeft, Nat.testBit_two_pow_sub_one, ← Nat.shiftRight_eq_div_pow, Nat.testBit_shiftRight]
  by_cases hi : 32 - n ≤ i
  · by_cases hj : i < 32
    · have : i - (32 - n) < n := by omega
      simp [hi, this, show 32 - n + (i - (32 - n)) = i by omega]
    · have hb : x.testBit i = false := Nat.testBit_lt_two_pow (Nat.lt_of_lt_of_le hx.lt' (Nat.pow_le_pow_right (by omega) (by omega)))
      simp [hb, show 32 - n + (i - (32 - n)) = i by omega]
  · simp [hi]

theorem andNot_mk (x n : Nat) : x &&& (4294967295 - mk n) = x % 2 ^ (32 - n) := by
  have e : 4294967295 - mk n = 2 ^ (32 - n) - 1 := by
    have := pow_le n
    have : 0 < 2 ^ (32 - n) := Nat.two_pow_pos _
    unfold mk; omega
  rw [e]
  exact Nat.and_two_pow_sub_one_eq_mod x _

/-- A prefix is valid. -/
def vld (a : Nat) (n : Int) : Bool := decide (0 ≤ n) && (decide (n ≤ 32) && decide (a % 2 ^ (32 - n.toNat) = 0))
theorem vld_iff {a : Nat} {n : Int} : vld a n = true ↔ 0 ≤ n ∧ n ≤ 32 ∧ a % 2 ^ (32 - n.toNat) = 0 := by simp [vld]
/-- It contains an address. -/
def cts (a : Nat) (n : Int) (x : Nat) : Bool := vld a n && decide (base n.toNat x = a)
/-- It covers another prefix. -/
def cvr (a : Nat) (n : Int) (b : Nat) (m : Int) : Bool := vld b m && (cts a n b && decide (n ≤ m))

theorem vld_neg {a : Nat} {n : Int} (h : ¬ 0 ≤ n) : vld a n = false := by simp [vld, h]
theorem vld_big {a : Nat} {n : Int} (h : ¬ n ≤ 32) : vld a n = false := by simp [vld, h]
theorem vld_mid {a : Nat} {n : Int} (h0 : 0 ≤ n) (h1 : n ≤ 32) : vld a n = decide (a % 2 ^ (32 - n.toNat) = 0) := by simp [vld, h0, h1]

theorem bits_andNot_mask {a : Nat} {n : Int} (ha : W32 a) (h0 : 0 ≤ n) (h1 : n ≤ 32) : (bits BinOp.andNot IntKind.u32 (a : Int) (maskI n) == 0) = vld a n := by
  obtain ⟨k, rfl⟩ := Int.eq_ofNat_of_zero_le h0
  have hk : k ≤ 32 := by omega
  rw [maskI_nat k hk, u32_andNot_nat _ _ ha.lt (mk_w32 k).lt, andNot_mk, vld_mid h0 h1]
  simp only [Int.toNat_natCast]
  rw [Bool.eq_iff_iff]
  simp only [beq_iff_eq, decide_eq_true_eq]
  omega
theorem bits_and_mask {x : Nat} {n : Int} (hx : W32 x) (h0 : 0 ≤ n) (h1 : n ≤ 32) : bits BinOp.and IntKind.u32 (x : Int) (maskI n) = ((base n.toNat x : Nat) : Int) := by
  obtain ⟨k, rfl⟩ := Int.eq_ofNat_of_zero_le h0
  have hk : k ≤ 32 := by omega
  rw [maskI_nat k hk, u32_and_nat _ _ hx.lt (mk_w32 k).lt, and_mk _ _ hx hk]
  rfl
theorem bits_and_mk {x n : Nat} (hx : W32 x) (h : n ≤ 32) : bits BinOp.and IntKind.u32 (x : Int) ((mk n : Nat) : Int) = ((base n x : Nat) : Int) := by
  rw [u32_and_nat _ _ hx.lt (mk_w32 n).lt, and_mk _ _ hx h]
theorem base_eq_iff {a n : Nat} : base n a = a ↔ a % 2 ^ (32 - n) = 0 := by
  have := Nat.mod_le a (2 ^ (32 - n))
  unfold base; omega
theorem base_w32 {n x : Nat} (h : W32 x) : W32 (base n x) := by
  have := h.lt
  unfold W32 base; omega

theorem bits_and_eq {a : Nat} {n : Int} (ha : W32 a) (h0 : 0 ≤ n) (h1 : n ≤ 32) : (bits BinOp.and IntKind.u32 (a : Int) (maskI n) == (a : Int)) = vld a n := by
  rw [bits_and_mask ha h0 h1, vld_mid h0 h1, Bool.eq_iff_iff]
  simp only [beq_iff_eq, decide_eq_true_eq]
  rw [← base_eq_iff]
  omega

/-- One step of the reference's mask. -/
theorem mk_step (i : Nat) (h : i < 32) : mk i ||| 2 ^ (31 - i) = mk (i + 1) := by
  have H : ∀ m : Fin 32, mk m.val ||| 2 ^ (31 - m.val) = mk (m.val + 1) := by decide +kernel
  exact H ⟨i, h⟩

/-- The order of prefixes. -/
def cmpI (a : Nat) (n : Int) (b : Nat) (m : Int) : Int := if a < b ∨ (a = b ∧ n < m) then -1 else if a = b ∧ n = m then 0 else 1

end Go.Proofs.Ytklkldnpgecajaa
