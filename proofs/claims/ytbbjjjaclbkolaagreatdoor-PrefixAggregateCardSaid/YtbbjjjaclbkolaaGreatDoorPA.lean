/- Plain lemmas on prefixes of addresses of 32 bits: no program in sight. The walks of package prefix's functions mask, Valid, Contains, Covers, Parent. The walks of the reference's functions on prefixes: mask, Valid, Contains, Covers, Parent, Compare. -/
import Derived.Laws.BitsAllLaws
import Derived.Test.YtbbjjjaclbkolaaGreatDoorRows
import Derived.WalkKit
import Derived.WalkSpells
import Derived.Deep.Cut
import Derived.WalkLawsBesides
import Derived.Test.YtbbjjjaclbkolaaGreatDoorMA
namespace Go.Proofs.YtbbjjjaclbkolaaGreatDoor
def W32 (a : Nat) : Prop := a < 4294967296
theorem W32.lt {a : Nat} (h : W32 a) : a < 4294967296 := h
theorem W32.lt' {a : Nat} (h : W32 a) : a < 2 ^ 32 := h
def mk (n : Nat) : Nat := 4294967296 - 2 ^ (32 - n)
def maskI (n : Int) : Int := IntKind.u64.wrap (4294967295 * 2 ^ (32 - n).toNat) % 4294967296
theorem maskI_nat (n : Nat) (h : n ≤ 32) : maskI n = ((mk n : Nat) : Int) := by
  have H : ∀ m : Fin 33, maskI ((m.val : Nat) : Int) = ((mk m.val : Nat) : Int) := by decide +kernel
  exact H ⟨n, by omega⟩
theorem mk_w32 (n : Nat) : W32 (mk n) := by
  have : 0 < 2 ^ (32 - n) := Nat.two_pow_pos _
  unfold W32 mk; omega
theorem pow_le (n : Nat) : 2 ^ (32 - n) ≤ 4294967296 := by
  have : 2 ^ (32 - n) ≤ 2 ^ 32 := Nat.pow_le_pow_right (by omega) (by omega)
  simpa using this
def base (n x : Nat) : Nat := x - x % 2 ^ (32 - n)
theorem and_mk (x n : Nat) (hx : W32 x) (h : n ≤ 32) : x &&& mk n = base n x := by
  have e1 : mk n = (2 ^ n - 1) * 2 ^ (32 - n) := by
    have : 2 ^ n * 2 ^ (32 - n) = 4294967296 := by
      rw [← Nat.pow_add, show n + (32 - n) = 32 by omega]
    unfold mk
    rw [Nat.sub_mul, this, Nat.one_mul]
  have e2 : base n x = x / 2 ^ (32 - n) * 2 ^ (32 - n) := by
    unfold base
    have := Nat.div_add_mod x (2 ^ (32 - n))
    rw [Nat.mul_comm] at this
    omega
  rw [e1, e2]
  apply Nat.eq_of_testBit_eq
  intro i
  rw [Nat.testBit_and, ← Nat.shiftLeft_eq, ← Nat.shiftLeft_eq, Nat.testBit_shiftLeft, Nat.testBit_shiftLeft, Nat.testBit_two_pow_sub_one, ← Nat.shiftRight_eq_div_pow, Nat.testBit_shiftRight]
  by_cases hi : 32 - n ≤ i
  · by_cases hj : i < 32
    · have : i - (32 - n) < n := by omega
      simp [hi, this, show 32 - n + (i - (32 - n)) = i by omega]
    · have hb : x.testBit i = false := Nat.testBit_lt_two_pow (Nat.lt_of_lt_of_le hx.lt' (Nat.pow_le_pow_right (by omega) (by omega)))
      simp [hb, show 32 - n + (i - (32 - n)) = i by omega]
  · simp [hi]
theorem andNot_mk (x n : Nat) : x &&& (4294967295 - mk n) = x % 2 ^ (32 - n) := by
  have e : 4294967295 - mk n = 2 ^ (32 - n) - 1 := by
    have := pow_le n
    have : 0 < 2 ^ (32 - n) := Nat.two_pow_pos _
    unfold mk; omega
  rw [e]
  exact Nat.and_two_pow_sub_one_eq_mod x _
def vld (a : Nat) (n : Int) : Bool := decide (0 ≤ n) && (decide (n ≤ 32) && decide (a % 2 ^ (32 - n.toNat) = 0))
theorem vld_iff {a : Nat} {n : Int} : vld a n = true ↔ 0 ≤ n ∧ n ≤ 32 ∧ a % 2 ^ (32 - n.toNat) = 0 := by simp [vld]
def cts (a : Nat) (n : Int) (x : Nat) : Bool := vld a n && decide (base n.toNat x = a)
def cvr (a : Nat) (n : Int) (b : Nat) (m : Int) : Bool := vld b m && (cts a n b && decide (n ≤ m))
theorem vld_neg {a : Nat} {n : Int} (h : ¬ 0 ≤ n) : vld a n = false := by simp [vld, h]
theorem vld_big {a : Nat} {n : Int} (h : ¬ n ≤ 32) : vld a n = false := by simp [vld, h]
theorem vld_mid {a : Nat} {n : Int} (h0 : 0 ≤ n) (h1 : n ≤ 32) : vld a n = decide (a % 2 ^ (32 - n.toNat) = 0) := by simp [vld, h0, h1]
theorem bits_andNot_mask {a : Nat} {n : Int} (ha : W32 a) (h0 : 0 ≤ n) (h1 : n ≤ 32) : (bits BinOp.andNot IntKind.u32 (a : Int) (maskI n) == 0) = vld a n := by
  obtain ⟨k, rfl⟩ := Int.eq_ofNat_of_zero_le h0
  have hk : k ≤ 32 := by omega
  rw [maskI_nat k hk, u32_andNot_nat _ _ ha.lt (mk_w32 k).lt, andNot_mk, vld_mid h0 h1]
  simp only [Int.toNat_natCast]
  rw [Bool.eq_iff_iff]
  simp only [beq_iff_eq, decide_eq_true_eq]
  omega
theorem bits_and_mask {x : Nat} {n : Int} (hx : W32 x) (h0 : 0 ≤ n) (h1 : n ≤ 32) : bits BinOp.and IntKind.u32 (x : Int) (maskI n) = ((base n.toNat x : Nat) : Int) := by
  obtain ⟨k, rfl⟩ := Int.eq_ofNat_of_zero_le h0
  have hk : k ≤ 32 := by omega
  rw [maskI_nat k hk, u32_and_nat _ _ hx.lt (mk_w32 k).lt, and_mk _ _ hx hk]
  rfl
theorem base_eq_iff {a n : Nat} : base n a = a ↔ a % 2 ^ (32 - n) = 0 := by
  have := Nat.mod_le a (2 ^ (32 - n))
  unfold base; omega
theorem base_w32 {n x : Nat} (h : W32 x) : W32 (base n x) := by
  have := h.lt
  unfold W32 base; omega
theorem bits_and_eq {a : Nat} {n : Int} (ha : W32 a) (h0 : 0 ≤ n) (h1 : n ≤ 32) : (bits BinOp.and IntKind.u32 (a : Int) (maskI n) == (a : Int)) = vld a n := by
  rw [bits_and_mask ha h0 h1, vld_mid h0 h1, Bool.eq_iff_iff]
  simp only [beq_iff_eq, decide_eq_true_eq]
  rw [← base_eq_iff]
  omega
theorem mk_step (i : Nat) (h : i < 32) : mk i ||| 2 ^ (31 - i) = mk (i + 1) := by
  have H : ∀ m : Fin 32, mk m.val ||| 2 ^ (31 - m.val) = mk (m.val + 1) := by decide +kernel
  exact H ⟨i, h⟩
def cmpI (a : Nat) (n : Int) (b : Nat) (m : Int) : Int := if a < b ∨ (a = b ∧ n < m) then -1 else if a = b ∧ n = m then 0 else 1
end Go.Proofs.YtbbjjjaclbkolaaGreatDoor
namespace Go.Proofs.YtbbjjjaclbkolaaGreatDoor
open Go.RowKit
set_option maxHeartbeats 400000 in
theorem mask_any (n : Int) (w : World) (h0 : 0 ≤ n) (h1 : n ≤ 32) :
    Calls Tryz.prog 28 #[.int .i64 n] w fun e w' => e = .returned (.int .u32 (maskI n)) ∧ w = w' := by
  go_enter Tryz.func28, Tryz.ntmps28
  go_wp2
  go_ret
  exact ⟨rfl, rfl⟩
set_option maxHeartbeats 400000 in
theorem valid_any (a : Nat) (n : Int) (w : World) (ha : W32 a) :
    Calls Tryz.prog 13 #[.agg #[.int .u32 (a : Int), .int .i64 n]] w fun e w' => e = .returned (.bool (vld a n)) ∧ Below w.heap.size w w' := by
  have fin : ∀ w2, Below (w.heap.size + 1) (w.alloc (.cells #[.int .u32 (a : Int), .int .i64 n] 31)) w2 → Below w.heap.size w w2 := fun w2 h =>
    ((Below.refl _ w).alloc (Nat.le_refl _) _).trans (h.mono (by omega))
  go_enter Tryz.func13, Tryz.ntmps13
  go_wp2
  refine wp_region_staged (fun w' => Below (w.heap.size + 1) (w.alloc (.cells #[.int .u32 (a : Int), .int .i64 n] 31)) w') [0, 1, 0, 0, 0, 1, 0, 0, 0, 0, 1, 0, 1, 1, 0, 0, 0, 0] (by kernel_rfl) (by kernel_rfl) (by kernel_rfl) (by exact (Below.refl _ _).drew) ?_
  by_cases h0 : 0 ≤ n
  · by_cases h1 : n ≤ 32
    · have e := bits_andNot_mask ha h0 h1
      apply lexF rfl; (· intro _; go_simp; (try go_bits); exact ⟨rfl, rfl⟩); simp only [Act.put, List.setIfInBounds_toArray, List.set_cons_zero, List.set_cons_succ]
      apply lexH rfl; (· intro w' hw'; have hcc := cellsBelow hw'; go_simp; (try go_bits); exact ⟨rfl, hw'⟩); simp only [Act.put, List.setIfInBounds_toArray, List.set_cons_zero, List.set_cons_succ]
      apply lexF rfl; (· intro _; go_simp; (try go_bits); exact ⟨rfl, rfl⟩); simp only [Act.put, List.setIfInBounds_toArray, List.set_cons_zero, List.set_cons_succ]
      apply lexF rfl; (· intro _; go_simp; (try go_bits); exact ⟨rfl, rfl⟩); simp only [Act.put, List.setIfInBounds_toArray, List.set_cons_zero, List.set_cons_succ]
      first | (apply lexN (j := 3) (d := 6) (b := true) rfl rfl rfl rfl; simp only [Act.put, List.setIfInBounds_toArray, List.set_cons_zero, List.set_cons_succ]) | (apply lexN' (j := 3) (d := 6) (b := true) rfl rfl rfl; simp only [Act.put, List.setIfInBounds_toArray, List.set_cons_zero, List.set_cons_succ]) | (apply lexFg (j := 3) (d := 6) (b := true) rfl rfl rfl rfl; (· intro _; go_simp; (try go_bits); exact ⟨rfl, rfl⟩); simp only [Act.put, List.setIfInBounds_toArray, List.set_cons_zero, List.set_cons_succ])
      first | (apply lexN (j := 3) (d := 6) (b := true) rfl rfl rfl rfl; simp only [Act.put, List.setIfInBounds_toArray, List.set_cons_zero, List.set_cons_succ]) | (apply lexN' (j := 3) (d := 6) (b := true) rfl rfl rfl; simp only [Act.put, List.setIfInBounds_toArray, List.set_cons_zero, List.set_cons_succ]) | (apply lexHg (j := 3) (d := 6) (b := true) rfl rfl rfl rfl; (· intro w' hw'; have hcc := cellsBelow hw'; go_simp; (try go_bits); exact ⟨rfl, hw'⟩); simp only [Act.put, List.setIfInBounds_toArray, List.set_cons_zero, List.set_cons_succ])
      first | (apply lexN (j := 3) (d := 6) (b := true) rfl rfl rfl rfl; simp only [Act.put, List.setIfInBounds_toArray, List.set_cons_zero, List.set_cons_succ]) | (apply lexN' (j := 3) (d := 6) (b := true) rfl rfl rfl; simp only [Act.put, List.setIfInBounds_toArray, List.set_cons_zero, List.set_cons_succ]) | (apply lexFg (j := 3) (d := 6) (b := true) rfl rfl rfl rfl; (· intro _; go_simp; (try go_bits); exact ⟨rfl, rfl⟩); simp only [Act.put, List.setIfInBounds_toArray, List.set_cons_zero, List.set_cons_succ])
      apply lexF rfl; (· intro _; go_simp; (try go_bits); exact ⟨rfl, rfl⟩); simp only [Act.put, List.setIfInBounds_toArray, List.set_cons_zero, List.set_cons_succ]
      apply lexF rfl; (· intro _; go_simp; (try go_bits); exact ⟨rfl, rfl⟩); simp only [Act.put, List.setIfInBounds_toArray, List.set_cons_zero, List.set_cons_succ]
      first | (apply lexN (j := 8) (d := 11) (b := true) rfl rfl rfl rfl; simp only [Act.put, List.setIfInBounds_toArray, List.set_cons_zero, List.set_cons_succ]) | (apply lexN' (j := 8) (d := 11) (b := true) rfl rfl rfl; simp only [Act.put, List.setIfInBounds_toArray, List.set_cons_zero, List.set_cons_succ]) | (apply lexFg (j := 8) (d := 11) (b := true) rfl rfl rfl rfl; (· intro _; go_simp; (try go_bits); exact ⟨rfl, rfl⟩); simp only [Act.put, List.setIfInBounds_toArray, List.set_cons_zero, List.set_cons_succ])
      first | (apply lexN (j := 8) (d := 11) (b := true) rfl rfl rfl rfl; simp only [Act.put, List.setIfInBounds_toArray, List.set_cons_zero, List.set_cons_succ]) | (apply lexN' (j := 8) (d := 11) (b := true) rfl rfl rfl; simp only [Act.put, List.setIfInBounds_toArray, List.set_cons_zero, List.set_cons_succ]) | (apply lexHg (j := 8) (d := 11) (b := true) rfl rfl rfl rfl; (· intro w' hw'; have hcc := cellsBelow hw'; go_simp; (try go_bits); exact ⟨rfl, hw'⟩); simp only [Act.put, List.setIfInBounds_toArray, List.set_cons_zero, List.set_cons_succ])
      first | (apply lexN (j := 8) (d := 11) (b := true) rfl rfl rfl rfl; simp only [Act.put, List.setIfInBounds_toArray, List.set_cons_zero, List.set_cons_succ]) | (apply lexN' (j := 8) (d := 11) (b := true) rfl rfl rfl; simp only [Act.put, List.setIfInBounds_toArray, List.set_cons_zero, List.set_cons_succ]) | (apply lexFg (j := 8) (d := 11) (b := true) rfl rfl rfl rfl; (· intro _; go_simp; (try go_bits); exact ⟨rfl, rfl⟩); simp only [Act.put, List.setIfInBounds_toArray, List.set_cons_zero, List.set_cons_succ])
      first | (apply lexN (j := 8) (d := 11) (b := true) rfl rfl rfl rfl; simp only [Act.put, List.setIfInBounds_toArray, List.set_cons_zero, List.set_cons_succ]) | (apply lexN' (j := 8) (d := 11) (b := true) rfl rfl rfl; simp only [Act.put, List.setIfInBounds_toArray, List.set_cons_zero, List.set_cons_succ]) | (apply lexHg (j := 8) (d := 11) (b := true) rfl rfl rfl rfl; (· intro w' hw'; have hcc := cellsBelow hw'; go_simp; (try go_bits); exact ⟨rfl, hw'⟩); simp only [Act.put, List.setIfInBounds_toArray, List.set_cons_zero, List.set_cons_succ])
      apply lexHg (j := 8) (d := 11) (b := true) rfl rfl rfl rfl
      · intro w' hw'; go_simp; (try go_bits); refine (mask_any n _ h0 h1).mono ?_; rintro e w'' ⟨rfl, rfl⟩; exact ⟨_, rfl, rfl, hw'⟩
      simp only [Act.put, List.setIfInBounds_toArray, List.set_cons_zero, List.set_cons_succ]
      first | (apply lexN (j := 8) (d := 11) (b := true) rfl rfl rfl rfl; simp only [Act.put, List.setIfInBounds_toArray, List.set_cons_zero, List.set_cons_succ]) | (apply lexN' (j := 8) (d := 11) (b := true) rfl rfl rfl; simp only [Act.put, List.setIfInBounds_toArray, List.set_cons_zero, List.set_cons_succ]) | (apply lexFg (j := 8) (d := 11) (b := true) rfl rfl rfl rfl; (· intro _; go_simp; (try go_bits); exact ⟨rfl, rfl⟩); simp only [Act.put, List.setIfInBounds_toArray, List.set_cons_zero, List.set_cons_succ])
      first | (apply lexN (j := 8) (d := 11) (b := true) rfl rfl rfl rfl; simp only [Act.put, List.setIfInBounds_toArray, List.set_cons_zero, List.set_cons_succ]) | (apply lexN' (j := 8) (d := 11) (b := true) rfl rfl rfl; simp only [Act.put, List.setIfInBounds_toArray, List.set_cons_zero, List.set_cons_succ]) | (apply lexFg (j := 8) (d := 11) (b := true) rfl rfl rfl rfl; (· intro _; go_simp; (try go_bits); exact ⟨rfl, rfl⟩); simp only [Act.put, List.setIfInBounds_toArray, List.set_cons_zero, List.set_cons_succ])
      apply lexF rfl; (· intro _; go_simp; (try go_bits); exact ⟨rfl, rfl⟩); simp only [Act.put, List.setIfInBounds_toArray, List.set_cons_zero, List.set_cons_succ]
      apply lexF rfl; (· intro _; go_simp; (try go_bits); exact ⟨rfl, rfl⟩); simp only [Act.put, List.setIfInBounds_toArray, List.set_cons_zero, List.set_cons_succ]
      refine lexEnd (fun w2 hw2 => ?_)
      go_wp2
      go_ret
      exact ⟨rfl, fin _ hw2⟩
    · have e := vld_big (a := a) h1
      have h2 : 32 < n := by omega
      apply lexF rfl; (· intro _; go_simp; (try go_bits); exact ⟨rfl, rfl⟩); simp only [Act.put, List.setIfInBounds_toArray, List.set_cons_zero, List.set_cons_succ]
      apply lexH rfl; (· intro w' hw'; have hcc := cellsBelow hw'; go_simp; (try go_bits); exact ⟨rfl, hw'⟩); simp only [Act.put, List.setIfInBounds_toArray, List.set_cons_zero, List.set_cons_succ]
      apply lexF rfl; (· intro _; go_simp; (try go_bits); exact ⟨rfl, rfl⟩); simp only [Act.put, List.setIfInBounds_toArray, List.set_cons_zero, List.set_cons_succ]
      apply lexF rfl; (· intro _; go_simp; (try go_bits); exact ⟨rfl, rfl⟩); simp only [Act.put, List.setIfInBounds_toArray, List.set_cons_zero, List.set_cons_succ]
      first | (apply lexN (j := 3) (d := 6) (b := true) rfl rfl rfl rfl; simp only [Act.put, List.setIfInBounds_toArray, List.set_cons_zero, List.set_cons_succ]) | (apply lexN' (j := 3) (d := 6) (b := true) rfl rfl rfl; simp only [Act.put, List.setIfInBounds_toArray, List.set_cons_zero, List.set_cons_succ]) | (apply lexFg (j := 3) (d := 6) (b := true) rfl rfl rfl rfl; (· intro _; go_simp; (try go_bits); exact ⟨rfl, rfl⟩); simp only [Act.put, List.setIfInBounds_toArray, List.set_cons_zero, List.set_cons_succ])
      first | (apply lexN (j := 3) (d := 6) (b := true) rfl rfl rfl rfl; simp only [Act.put, List.setIfInBounds_toArray, List.set_cons_zero, List.set_cons_succ]) | (apply lexN' (j := 3) (d := 6) (b := true) rfl rfl rfl; simp only [Act.put, List.setIfInBounds_toArray, List.set_cons_zero, List.set_cons_succ]) | (apply lexHg (j := 3) (d := 6) (b := true) rfl rfl rfl rfl; (· intro w' hw'; have hcc := cellsBelow hw'; go_simp; (try go_bits); exact ⟨rfl, hw'⟩); simp only [Act.put, List.setIfInBounds_toArray, List.set_cons_zero, List.set_cons_succ])
      first | (apply lexN (j := 3) (d := 6) (b := true) rfl rfl rfl rfl; simp only [Act.put, List.setIfInBounds_toArray, List.set_cons_zero, List.set_cons_succ]) | (apply lexN' (j := 3) (d := 6) (b := true) rfl rfl rfl; simp only [Act.put, List.setIfInBounds_toArray, List.set_cons_zero, List.set_cons_succ]) | (apply lexFg (j := 3) (d := 6) (b := true) rfl rfl rfl rfl; (· intro _; go_simp; (try go_bits); exact ⟨rfl, rfl⟩); simp only [Act.put, List.setIfInBounds_toArray, List.set_cons_zero, List.set_cons_succ])
      apply lexF rfl; (· intro _; go_simp; (try go_bits); exact ⟨rfl, rfl⟩); simp only [Act.put, List.setIfInBounds_toArray, List.set_cons_zero, List.set_cons_succ]
      apply lexF rfl; (· intro _; go_simp; (try go_bits); exact ⟨rfl, rfl⟩); simp only [Act.put, List.setIfInBounds_toArray, List.set_cons_zero, List.set_cons_succ]
      first | (apply lexN (j := 8) (d := 11) (b := true) rfl rfl rfl rfl; simp only [Act.put, List.setIfInBounds_toArray, List.set_cons_zero, List.set_cons_succ]) | (apply lexN' (j := 8) (d := 11) (b := true) rfl rfl rfl; simp only [Act.put, List.setIfInBounds_toArray, List.set_cons_zero, List.set_cons_succ]) | (apply lexFg (j := 8) (d := 11) (b := true) rfl rfl rfl rfl; (· intro _; go_simp; (try go_bits); exact ⟨rfl, rfl⟩); simp only [Act.put, List.setIfInBounds_toArray, List.set_cons_zero, List.set_cons_succ])
      first | (apply lexN (j := 8) (d := 11) (b := true) rfl rfl rfl rfl; simp only [Act.put, List.setIfInBounds_toArray, List.set_cons_zero, List.set_cons_succ]) | (apply lexN' (j := 8) (d := 11) (b := true) rfl rfl rfl; simp only [Act.put, List.setIfInBounds_toArray, List.set_cons_zero, List.set_cons_succ]) | (apply lexHg (j := 8) (d := 11) (b := true) rfl rfl rfl rfl; (· intro w' hw'; have hcc := cellsBelow hw'; go_simp; (try go_bits); exact ⟨rfl, hw'⟩); simp only [Act.put, List.setIfInBounds_toArray, List.set_cons_zero, List.set_cons_succ])
      first | (apply lexN (j := 8) (d := 11) (b := true) rfl rfl rfl rfl; simp only [Act.put, List.setIfInBounds_toArray, List.set_cons_zero, List.set_cons_succ]) | (apply lexN' (j := 8) (d := 11) (b := true) rfl rfl rfl; simp only [Act.put, List.setIfInBounds_toArray, List.set_cons_zero, List.set_cons_succ]) | (apply lexFg (j := 8) (d := 11) (b := true) rfl rfl rfl rfl; (· intro _; go_simp; (try go_bits); exact ⟨rfl, rfl⟩); simp only [Act.put, List.setIfInBounds_toArray, List.set_cons_zero, List.set_cons_succ])
      first | (apply lexN (j := 8) (d := 11) (b := true) rfl rfl rfl rfl; simp only [Act.put, List.setIfInBounds_toArray, List.set_cons_zero, List.set_cons_succ]) | (apply lexN' (j := 8) (d := 11) (b := true) rfl rfl rfl; simp only [Act.put, List.setIfInBounds_toArray, List.set_cons_zero, List.set_cons_succ]) | (apply lexHg (j := 8) (d := 11) (b := true) rfl rfl rfl rfl; (· intro w' hw'; have hcc := cellsBelow hw'; go_simp; (try go_bits); exact ⟨rfl, hw'⟩); simp only [Act.put, List.setIfInBounds_toArray, List.set_cons_zero, List.set_cons_succ])
      first | (apply lexN (j := 8) (d := 11) (b := true) rfl rfl rfl rfl; simp only [Act.put, List.setIfInBounds_toArray, List.set_cons_zero, List.set_cons_succ]) | (apply lexN' (j := 8) (d := 11) (b := true) rfl rfl rfl; simp only [Act.put, List.setIfInBounds_toArray, List.set_cons_zero, List.set_cons_succ]) | (apply lexHg (j := 8) (d := 11) (b := true) rfl rfl rfl rfl; (· intro w' hw'; have hcc := cellsBelow hw'; go_simp; (try go_bits); exact ⟨rfl, hw'⟩); simp only [Act.put, List.setIfInBounds_toArray, List.set_cons_zero, List.set_cons_succ])
      first | (apply lexN (j := 8) (d := 11) (b := true) rfl rfl rfl rfl; simp only [Act.put, List.setIfInBounds_toArray, List.set_cons_zero, List.set_cons_succ]) | (apply lexN' (j := 8) (d := 11) (b := true) rfl rfl rfl; simp only [Act.put, List.setIfInBounds_toArray, List.set_cons_zero, List.set_cons_succ]) | (apply lexFg (j := 8) (d := 11) (b := true) rfl rfl rfl rfl; (· intro _; go_simp; (try go_bits); exact ⟨rfl, rfl⟩); simp only [Act.put, List.setIfInBounds_toArray, List.set_cons_zero, List.set_cons_succ])
      first | (apply lexN (j := 8) (d := 11) (b := true) rfl rfl rfl rfl; simp only [Act.put, List.setIfInBounds_toArray, List.set_cons_zero, List.set_cons_succ]) | (apply lexN' (j := 8) (d := 11) (b := true) rfl rfl rfl; simp only [Act.put, List.setIfInBounds_toArray, List.set_cons_zero, List.set_cons_succ]) | (apply lexFg (j := 8) (d := 11) (b := true) rfl rfl rfl rfl; (· intro _; go_simp; (try go_bits); exact ⟨rfl, rfl⟩); simp only [Act.put, List.setIfInBounds_toArray, List.set_cons_zero, List.set_cons_succ])
      apply lexF rfl; (· intro _; go_simp; (try go_bits); exact ⟨rfl, rfl⟩); simp only [Act.put, List.setIfInBounds_toArray, List.set_cons_zero, List.set_cons_succ]
      apply lexF rfl; (· intro _; go_simp; (try go_bits); exact ⟨rfl, rfl⟩); simp only [Act.put, List.setIfInBounds_toArray, List.set_cons_zero, List.set_cons_succ]
      refine lexEnd (fun w2 hw2 => ?_)
      go_wp2
      go_ret
      exact ⟨rfl, fin _ hw2⟩
  · have e := vld_neg (a := a) h0
    have h2 : n < 0 := by omega
    apply lexF rfl; (· intro _; go_simp; (try go_bits); exact ⟨rfl, rfl⟩); simp only [Act.put, List.setIfInBounds_toArray, List.set_cons_zero, List.set_cons_succ]
    apply lexH rfl; (· intro w' hw'; have hcc := cellsBelow hw'; go_simp; (try go_bits); exact ⟨rfl, hw'⟩); simp only [Act.put, List.setIfInBounds_toArray, List.set_cons_zero, List.set_cons_succ]
    apply lexF rfl; (· intro _; go_simp; (try go_bits); exact ⟨rfl, rfl⟩); simp only [Act.put, List.setIfInBounds_toArray, List.set_cons_zero, List.set_cons_succ]
    apply lexF rfl; (· intro _; go_simp; (try go_bits); exact ⟨rfl, rfl⟩); simp only [Act.put, List.setIfInBounds_toArray, List.set_cons_zero, List.set_cons_succ]
    first | (apply lexN (j := 3) (d := 6) (b := true) rfl rfl rfl rfl; simp only [Act.put, List.setIfInBounds_toArray, List.set_cons_zero, List.set_cons_succ]) | (apply lexN' (j := 3) (d := 6) (b := true) rfl rfl rfl; simp only [Act.put, List.setIfInBounds_toArray, List.set_cons_zero, List.set_cons_succ]) | (apply lexFg (j := 3) (d := 6) (b := true) rfl rfl rfl rfl; (· intro _; go_simp; (try go_bits); exact ⟨rfl, rfl⟩); simp only [Act.put, List.setIfInBounds_toArray, List.set_cons_zero, List.set_cons_succ])
    first | (apply lexN (j := 3) (d := 6) (b := true) rfl rfl rfl rfl; simp only [Act.put, List.setIfInBounds_toArray, List.set_cons_zero, List.set_cons_succ]) | (apply lexN' (j := 3) (d := 6) (b := true) rfl rfl rfl; simp only [Act.put, List.setIfInBounds_toArray, List.set_cons_zero, List.set_cons_succ]) | (apply lexHg (j := 3) (d := 6) (b := true) rfl rfl rfl rfl; (· intro w' hw'; have hcc := cellsBelow hw'; go_simp; (try go_bits); exact ⟨rfl, hw'⟩); simp only [Act.put, List.setIfInBounds_toArray, List.set_cons_zero, List.set_cons_succ])
    first | (apply lexN (j := 3) (d := 6) (b := true) rfl rfl rfl rfl; simp only [Act.put, List.setIfInBounds_toArray, List.set_cons_zero, List.set_cons_succ]) | (apply lexN' (j := 3) (d := 6) (b := true) rfl rfl rfl; simp only [Act.put, List.setIfInBounds_toArray, List.set_cons_zero, List.set_cons_succ]) | (apply lexFg (j := 3) (d := 6) (b := true) rfl rfl rfl rfl; (· intro _; go_simp; (try go_bits); exact ⟨rfl, rfl⟩); simp only [Act.put, List.setIfInBounds_toArray, List.set_cons_zero, List.set_cons_succ])
    apply lexF rfl; (· intro _; go_simp; (try go_bits); exact ⟨rfl, rfl⟩); simp only [Act.put, List.setIfInBounds_toArray, List.set_cons_zero, List.set_cons_succ]
    apply lexF rfl; (· intro _; go_simp; (try go_bits); exact ⟨rfl, rfl⟩); simp only [Act.put, List.setIfInBounds_toArray, List.set_cons_zero, List.set_cons_succ]
    first | (apply lexN (j := 8) (d := 11) (b := true) rfl rfl rfl rfl; simp only [Act.put, List.setIfInBounds_toArray, List.set_cons_zero, List.set_cons_succ]) | (apply lexN' (j := 8) (d := 11) (b := true) rfl rfl rfl; simp only [Act.put, List.setIfInBounds_toArray, List.set_cons_zero, List.set_cons_succ]) | (apply lexFg (j := 8) (d := 11) (b := true) rfl rfl rfl rfl; (· intro _; go_simp; (try go_bits); exact ⟨rfl, rfl⟩); simp only [Act.put, List.setIfInBounds_toArray, List.set_cons_zero, List.set_cons_succ])
    first | (apply lexN (j := 8) (d := 11) (b := true) rfl rfl rfl rfl; simp only [Act.put, List.setIfInBounds_toArray, List.set_cons_zero, List.set_cons_succ]) | (apply lexN' (j := 8) (d := 11) (b := true) rfl rfl rfl; simp only [Act.put, List.setIfInBounds_toArray, List.set_cons_zero, List.set_cons_succ]) | (apply lexHg (j := 8) (d := 11) (b := true) rfl rfl rfl rfl; (· intro w' hw'; have hcc := cellsBelow hw'; go_simp; (try go_bits); exact ⟨rfl, hw'⟩); simp only [Act.put, List.setIfInBounds_toArray, List.set_cons_zero, List.set_cons_succ])
    first | (apply lexN (j := 8) (d := 11) (b := true) rfl rfl rfl rfl; simp only [Act.put, List.setIfInBounds_toArray, List.set_cons_zero, List.set_cons_succ]) | (apply lexN' (j := 8) (d := 11) (b := true) rfl rfl rfl; simp only [Act.put, List.setIfInBounds_toArray, List.set_cons_zero, List.set_cons_succ]) | (apply lexFg (j := 8) (d := 11) (b := true) rfl rfl rfl rfl; (· intro _; go_simp; (try go_bits); exact ⟨rfl, rfl⟩); simp only [Act.put, List.setIfInBounds_toArray, List.set_cons_zero, List.set_cons_succ])
    first | (apply lexN (j := 8) (d := 11) (b := true) rfl rfl rfl rfl; simp only [Act.put, List.setIfInBounds_toArray, List.set_cons_zero, List.set_cons_succ]) | (apply lexN' (j := 8) (d := 11) (b := true) rfl rfl rfl; simp only [Act.put, List.setIfInBounds_toArray, List.set_cons_zero, List.set_cons_succ]) | (apply lexHg (j := 8) (d := 11) (b := true) rfl rfl rfl rfl; (· intro w' hw'; have hcc := cellsBelow hw'; go_simp; (try go_bits); exact ⟨rfl, hw'⟩); simp only [Act.put, List.setIfInBounds_toArray, List.set_cons_zero, List.set_cons_succ])
    first | (apply lexN (j := 8) (d := 11) (b := true) rfl rfl rfl rfl; simp only [Act.put, List.setIfInBounds_toArray, List.set_cons_zero, List.set_cons_succ]) | (apply lexN' (j := 8) (d := 11) (b := true) rfl rfl rfl; simp only [Act.put, List.setIfInBounds_toArray, List.set_cons_zero, List.set_cons_succ]) | (apply lexHg (j := 8) (d := 11) (b := true) rfl rfl rfl rfl; (· intro w' hw'; have hcc := cellsBelow hw'; go_simp; (try go_bits); exact ⟨rfl, hw'⟩); simp only [Act.put, List.setIfInBounds_toArray, List.set_cons_zero, List.set_cons_succ])
    first | (apply lexN (j := 8) (d := 11) (b := true) rfl rfl rfl rfl; simp only [Act.put, List.setIfInBounds_toArray, List.set_cons_zero, List.set_cons_succ]) | (apply lexN' (j := 8) (d := 11) (b := true) rfl rfl rfl; simp only [Act.put, List.setIfInBounds_toArray, List.set_cons_zero, List.set_cons_succ]) | (apply lexFg (j := 8) (d := 11) (b := true) rfl rfl rfl rfl; (· intro _; go_simp; (try go_bits); exact ⟨rfl, rfl⟩); simp only [Act.put, List.setIfInBounds_toArray, List.set_cons_zero, List.set_cons_succ])
    first | (apply lexN (j := 8) (d := 11) (b := true) rfl rfl rfl rfl; simp only [Act.put, List.setIfInBounds_toArray, List.set_cons_zero, List.set_cons_succ]) | (apply lexN' (j := 8) (d := 11) (b := true) rfl rfl rfl; simp only [Act.put, List.setIfInBounds_toArray, List.set_cons_zero, List.set_cons_succ]) | (apply lexFg (j := 8) (d := 11) (b := true) rfl rfl rfl rfl; (· intro _; go_simp; (try go_bits); exact ⟨rfl, rfl⟩); simp only [Act.put, List.setIfInBounds_toArray, List.set_cons_zero, List.set_cons_succ])
    apply lexF rfl; (· intro _; go_simp; (try go_bits); exact ⟨rfl, rfl⟩); simp only [Act.put, List.setIfInBounds_toArray, List.set_cons_zero, List.set_cons_succ]
    apply lexF rfl; (· intro _; go_simp; (try go_bits); exact ⟨rfl, rfl⟩); simp only [Act.put, List.setIfInBounds_toArray, List.set_cons_zero, List.set_cons_succ]
    refine lexEnd (fun w2 hw2 => ?_)
    go_wp2
    go_ret
    exact ⟨rfl, fin _ hw2⟩
set_option maxHeartbeats 400000 in
theorem contains_any (a : Nat) (n : Int) (x : Nat) (w : World) (ha : W32 a) (hx : W32 x) :
    Calls Tryz.prog 23 #[.agg #[.int .u32 (a : Int), .int .i64 n], .int .u32 (x : Int)] w fun e w' => e = .returned (.bool (cts a n x)) ∧ Below w.heap.size w w' := by
  have fin : ∀ w2, Below (w.heap.size + 1) (w.alloc (.cells #[.int .u32 (a : Int), .int .i64 n] 31)) w2 → Below w.heap.size w w2 := fun w2 h =>
    ((Below.refl _ w).alloc (Nat.le_refl _) _).trans (h.mono (by omega))
  go_enter Tryz.func23, Tryz.ntmps23
  go_wp2
  refine wp_region_staged (fun w' => Below (w.heap.size + 1) (w.alloc (.cells #[.int .u32 (a : Int), .int .i64 n] 31)) w') [1, 1, 0, 0, 0, 1, 1, 0, 0, 1, 0, 0, 0] (by kernel_rfl) (by kernel_rfl) (by kernel_rfl) (by exact (Below.refl _ _).drew) ?_
  cases hv : vld a n
  · have E := hid (show cts a n x = false by simp [cts, hv])
    have HV := hid hv
    clear hv
    apply lexH rfl; (· intro w' hw'; have hcc := cellsBelow hw'; go_simp; (try go_bits); exact ⟨rfl, hw'⟩); simp only [Act.put, List.setIfInBounds_toArray, List.set_cons_zero, List.set_cons_succ]
    apply lexH rfl
    · intro w' hw'; go_simp; (try go_bits); refine (valid_any a n _ ha).mono ?_; rintro e w'' ⟨rfl, hb⟩; exact ⟨_, rfl, congrArg Value.bool HV.out, hw'.trans (hb.mono (by have := hw'.size; simp at this; omega))⟩
    simp only [Act.put, List.setIfInBounds_toArray, List.set_cons_zero, List.set_cons_succ]
    apply lexF rfl; (· intro _; go_simp; (try go_bits); exact ⟨rfl, rfl⟩); simp only [Act.put, List.setIfInBounds_toArray, List.set_cons_zero, List.set_cons_succ]
    first | (apply lexN (j := 2) (d := 7) (b := true) rfl rfl rfl rfl; simp only [Act.put, List.setIfInBounds_toArray, List.set_cons_zero, List.set_cons_succ]) | (apply lexN' (j := 2) (d := 7) (b := true) rfl rfl rfl; simp only [Act.put, List.setIfInBounds_toArray, List.set_cons_zero, List.set_cons_succ]) | (apply lexFg (j := 2) (d := 7) (b := true) rfl rfl rfl rfl; (· intro _; go_simp; (try go_bits); exact ⟨rfl, rfl⟩); simp only [Act.put, List.setIfInBounds_toArray, List.set_cons_zero, List.set_cons_succ])
    first | (apply lexN (j := 2) (d := 7) (b := true) rfl rfl rfl rfl; simp only [Act.put, List.setIfInBounds_toArray, List.set_cons_zero, List.set_cons_succ]) | (apply lexN' (j := 2) (d := 7) (b := true) rfl rfl rfl; simp only [Act.put, List.setIfInBounds_toArray, List.set_cons_zero, List.set_cons_succ]) | (apply lexFg (j := 2) (d := 7) (b := true) rfl rfl rfl rfl; (· intro _; go_simp; (try go_bits); exact ⟨rfl, rfl⟩); simp only [Act.put, List.setIfInBounds_toArray, List.set_cons_zero, List.set_cons_succ])
    first | (apply lexN (j := 2) (d := 7) (b := true) rfl rfl rfl rfl; simp only [Act.put, List.setIfInBounds_toArray, List.set_cons_zero, List.set_cons_succ]) | (apply lexN' (j := 2) (d := 7) (b := true) rfl rfl rfl; simp only [Act.put, List.setIfInBounds_toArray, List.set_cons_zero, List.set_cons_succ]) | (apply lexHg (j := 2) (d := 7) (b := true) rfl rfl rfl rfl; (· intro w' hw'; have hcc := cellsBelow hw'; go_simp; (try go_bits); exact ⟨rfl, hw'⟩); simp only [Act.put, List.setIfInBounds_toArray, List.set_cons_zero, List.set_cons_succ])
    first | (apply lexN (j := 2) (d := 7) (b := true) rfl rfl rfl rfl; simp only [Act.put, List.setIfInBounds_toArray, List.set_cons_zero, List.set_cons_succ]) | (apply lexN' (j := 2) (d := 7) (b := true) rfl rfl rfl; simp only [Act.put, List.setIfInBounds_toArray, List.set_cons_zero, List.set_cons_succ]) | (apply lexHg (j := 2) (d := 7) (b := true) rfl rfl rfl rfl; (· intro w' hw'; have hcc := cellsBelow hw'; go_simp; (try go_bits); exact ⟨rfl, hw'⟩); simp only [Act.put, List.setIfInBounds_toArray, List.set_cons_zero, List.set_cons_succ])
    first | (apply lexN (j := 2) (d := 7) (b := true) rfl rfl rfl rfl; simp only [Act.put, List.setIfInBounds_toArray, List.set_cons_zero, List.set_cons_succ]) | (apply lexN' (j := 2) (d := 7) (b := true) rfl rfl rfl; simp only [Act.put, List.setIfInBounds_toArray, List.set_cons_zero, List.set_cons_succ]) | (apply lexFg (j := 2) (d := 7) (b := true) rfl rfl rfl rfl; (· intro _; go_simp; (try go_bits); exact ⟨rfl, rfl⟩); simp only [Act.put, List.setIfInBounds_toArray, List.set_cons_zero, List.set_cons_succ])
    first | (apply lexN (j := 2) (d := 7) (b := true) rfl rfl rfl rfl; simp only [Act.put, List.setIfInBounds_toArray, List.set_cons_zero, List.set_cons_succ]) | (apply lexN' (j := 2) (d := 7) (b := true) rfl rfl rfl; simp only [Act.put, List.setIfInBounds_toArray, List.set_cons_zero, List.set_cons_succ]) | (apply lexFg (j := 2) (d := 7) (b := true) rfl rfl rfl rfl; (· intro _; go_simp; (try go_bits); exact ⟨rfl, rfl⟩); simp only [Act.put, List.setIfInBounds_toArray, List.set_cons_zero, List.set_cons_succ])
    first | (apply lexN (j := 2) (d := 7) (b := true) rfl rfl rfl rfl; simp only [Act.put, List.setIfInBounds_toArray, List.set_cons_zero, List.set_cons_succ]) | (apply lexN' (j := 2) (d := 7) (b := true) rfl rfl rfl; simp only [Act.put, List.setIfInBounds_toArray, List.set_cons_zero, List.set_cons_succ]) | (apply lexHg (j := 2) (d := 7) (b := true) rfl rfl rfl rfl; (· intro w' hw'; have hcc := cellsBelow hw'; go_simp; (try go_bits); exact ⟨rfl, hw'⟩); simp only [Act.put, List.setIfInBounds_toArray, List.set_cons_zero, List.set_cons_succ])
    first | (apply lexN (j := 2) (d := 7) (b := true) rfl rfl rfl rfl; simp only [Act.put, List.setIfInBounds_toArray, List.set_cons_zero, List.set_cons_succ]) | (apply lexN' (j := 2) (d := 7) (b := true) rfl rfl rfl; simp only [Act.put, List.setIfInBounds_toArray, List.set_cons_zero, List.set_cons_succ]) | (apply lexFg (j := 2) (d := 7) (b := true) rfl rfl rfl rfl; (· intro _; go_simp; (try go_bits); exact ⟨rfl, rfl⟩); simp only [Act.put, List.setIfInBounds_toArray, List.set_cons_zero, List.set_cons_succ])
    apply lexF rfl; (· intro _; go_simp; (try go_bits); exact ⟨rfl, rfl⟩); simp only [Act.put, List.setIfInBounds_toArray, List.set_cons_zero, List.set_cons_succ]
    apply lexF rfl; (· intro _; go_simp; (try go_bits); exact ⟨rfl, rfl⟩); simp only [Act.put, List.setIfInBounds_toArray, List.set_cons_zero, List.set_cons_succ]
    refine lexEnd (fun w2 hw2 => ?_)
    go_wp2
    go_ret
    exact ⟨by rw [E.out]; rfl, fin _ hw2⟩
  · obtain ⟨h0, h1, h2⟩ := vld_iff.1 hv
    have E := hid (show cts a n x = decide (base n.toNat x = a) by simp [cts, hv])
    have HV := hid hv
    have e2 := bits_and_mask hx h0 h1
    clear hv h2
    apply lexH rfl; (· intro w' hw'; have hcc := cellsBelow hw'; go_simp; (try go_bits); exact ⟨rfl, hw'⟩); simp only [Act.put, List.setIfInBounds_toArray, List.set_cons_zero, List.set_cons_succ]
    apply lexH rfl
    · intro w' hw'; go_simp; (try go_bits); refine (valid_any a n _ ha).mono ?_; rintro e w'' ⟨rfl, hb⟩; exact ⟨_, rfl, congrArg Value.bool HV.out, hw'.trans (hb.mono (by have := hw'.size; simp at this; omega))⟩
    simp only [Act.put, List.setIfInBounds_toArray, List.set_cons_zero, List.set_cons_succ]
    apply lexF rfl; (· intro _; go_simp; (try go_bits); exact ⟨rfl, rfl⟩); simp only [Act.put, List.setIfInBounds_toArray, List.set_cons_zero, List.set_cons_succ]
    first | (apply lexN (j := 2) (d := 7) (b := true) rfl rfl rfl rfl; simp only [Act.put, List.setIfInBounds_toArray, List.set_cons_zero, List.set_cons_succ]) | (apply lexN' (j := 2) (d := 7) (b := true) rfl rfl rfl; simp only [Act.put, List.setIfInBounds_toArray, List.set_cons_zero, List.set_cons_succ]) | (apply lexFg (j := 2) (d := 7) (b := true) rfl rfl rfl rfl; (· intro _; go_simp; (try go_bits); exact ⟨rfl, rfl⟩); simp only [Act.put, List.setIfInBounds_toArray, List.set_cons_zero, List.set_cons_succ])
    first | (apply lexN (j := 2) (d := 7) (b := true) rfl rfl rfl rfl; simp only [Act.put, List.setIfInBounds_toArray, List.set_cons_zero, List.set_cons_succ]) | (apply lexN' (j := 2) (d := 7) (b := true) rfl rfl rfl; simp only [Act.put, List.setIfInBounds_toArray, List.set_cons_zero, List.set_cons_succ]) | (apply lexFg (j := 2) (d := 7) (b := true) rfl rfl rfl rfl; (· intro _; go_simp; (try go_bits); exact ⟨rfl, rfl⟩); simp only [Act.put, List.setIfInBounds_toArray, List.set_cons_zero, List.set_cons_succ])
    first | (apply lexN (j := 2) (d := 7) (b := true) rfl rfl rfl rfl; simp only [Act.put, List.setIfInBounds_toArray, List.set_cons_zero, List.set_cons_succ]) | (apply lexN' (j := 2) (d := 7) (b := true) rfl rfl rfl; simp only [Act.put, List.setIfInBounds_toArray, List.set_cons_zero, List.set_cons_succ]) | (apply lexHg (j := 2) (d := 7) (b := true) rfl rfl rfl rfl; (· intro w' hw'; have hcc := cellsBelow hw'; go_simp; (try go_bits); exact ⟨rfl, hw'⟩); simp only [Act.put, List.setIfInBounds_toArray, List.set_cons_zero, List.set_cons_succ])
    apply lexHg (j := 2) (d := 7) (b := true) rfl rfl rfl rfl
    · intro w' hw'; go_simp; (try go_bits); refine (mask_any n _ h0 h1).mono ?_; rintro e w'' ⟨rfl, rfl⟩; exact ⟨_, rfl, rfl, hw'⟩
    simp only [Act.put, List.setIfInBounds_toArray, List.set_cons_zero, List.set_cons_succ]
    first | (apply lexN (j := 2) (d := 7) (b := true) rfl rfl rfl rfl; simp only [Act.put, List.setIfInBounds_toArray, List.set_cons_zero, List.set_cons_succ]) | (apply lexN' (j := 2) (d := 7) (b := true) rfl rfl rfl; simp only [Act.put, List.setIfInBounds_toArray, List.set_cons_zero, List.set_cons_succ]) | (apply lexFg (j := 2) (d := 7) (b := true) rfl rfl rfl rfl; (· intro _; go_simp; (try go_bits); exact ⟨rfl, rfl⟩); simp only [Act.put, List.setIfInBounds_toArray, List.set_cons_zero, List.set_cons_succ])
    first | (apply lexN (j := 2) (d := 7) (b := true) rfl rfl rfl rfl; simp only [Act.put, List.setIfInBounds_toArray, List.set_cons_zero, List.set_cons_succ]) | (apply lexN' (j := 2) (d := 7) (b := true) rfl rfl rfl; simp only [Act.put, List.setIfInBounds_toArray, List.set_cons_zero, List.set_cons_succ]) | (apply lexFg (j := 2) (d := 7) (b := true) rfl rfl rfl rfl; (· intro _; go_simp; (try go_bits); exact ⟨rfl, rfl⟩); simp only [Act.put, List.setIfInBounds_toArray, List.set_cons_zero, List.set_cons_succ])
    first | (apply lexN (j := 2) (d := 7) (b := true) rfl rfl rfl rfl; simp only [Act.put, List.setIfInBounds_toArray, List.set_cons_zero, List.set_cons_succ]) | (apply lexN' (j := 2) (d := 7) (b := true) rfl rfl rfl; simp only [Act.put, List.setIfInBounds_toArray, List.set_cons_zero, List.set_cons_succ]) | (apply lexHg (j := 2) (d := 7) (b := true) rfl rfl rfl rfl; (· intro w' hw'; have hcc := cellsBelow hw'; go_simp; (try go_bits); exact ⟨rfl, hw'⟩); simp only [Act.put, List.setIfInBounds_toArray, List.set_cons_zero, List.set_cons_succ])
    first | (apply lexN (j := 2) (d := 7) (b := true) rfl rfl rfl rfl; simp only [Act.put, List.setIfInBounds_toArray, List.set_cons_zero, List.set_cons_succ]) | (apply lexN' (j := 2) (d := 7) (b := true) rfl rfl rfl; simp only [Act.put, List.setIfInBounds_toArray, List.set_cons_zero, List.set_cons_succ]) | (apply lexFg (j := 2) (d := 7) (b := true) rfl rfl rfl rfl; (· intro _; go_simp; (try go_bits); exact ⟨rfl, rfl⟩); simp only [Act.put, List.setIfInBounds_toArray, List.set_cons_zero, List.set_cons_succ])
    apply lexF rfl; (· intro _; go_simp; (try go_bits); exact ⟨rfl, rfl⟩); simp only [Act.put, List.setIfInBounds_toArray, List.set_cons_zero, List.set_cons_succ]
    apply lexF rfl; (· intro _; go_simp; (try go_bits); exact ⟨rfl, rfl⟩); simp only [Act.put, List.setIfInBounds_toArray, List.set_cons_zero, List.set_cons_succ]
    refine lexEnd (fun w2 hw2 => ?_)
    go_wp2
    go_ret
    exact ⟨by rw [E.out]; exact ret_bool (by rw [Bool.eq_iff_iff]; simp only [beq_iff_eq, decide_eq_true_eq]; omega), fin _ hw2⟩
set_option maxHeartbeats 400000 in
theorem covers_any (a : Nat) (n : Int) (b : Nat) (m : Int) (w : World) (ha : W32 a) (hb : W32 b) :
    Calls Tryz.prog 11 #[.agg #[.int .u32 (a : Int), .int .i64 n], .agg #[.int .u32 (b : Int), .int .i64 m]] w fun e w' => e = .returned (.bool (cvr a n b m)) ∧ Below w.heap.size w w' := by
  have fin : ∀ w2, Below (w.heap.size + 2) ((w.alloc (.cells #[.int .u32 (a : Int), .int .i64 n] 31)).alloc (.cells #[.int .u32 (b : Int), .int .i64 m] 31)) w2 → Below w.heap.size w w2 := fun w2 h =>
    (((Below.refl _ w).alloc (Nat.le_refl _) _).alloc (by simp) _).trans (h.mono (by omega))
  go_enter Tryz.func11, Tryz.ntmps11
  have S0 : ∀ w', Below (w.heap.size + 2) ((w.alloc (.cells #[.int .u32 (a : Int), .int .i64 n] 31)).alloc (.cells #[.int .u32 (b : Int), .int .i64 m] 31)) w' → w.heap.size + 2 ≤ w'.heap.size := fun w' h => by
    have := h.size; simp at this; omega
  go_upto_region 1 with (fail)
  refine wp_region_text (fun w' => Below (w.heap.size + 2) ((w.alloc (.cells #[.int .u32 (a : Int), .int .i64 n] 31)).alloc (.cells #[.int .u32 (b : Int), .int .i64 m] 31)) w') [1, 1, 0, 1, 0, 1, 1, 0, 0, 0, 1, 0, 1, 0, 0, 0] (by exact Below.refl _ _) ?_
  cases hv : vld b m
  · have E := hid (show cvr a n b m = false by simp [cvr, hv])
    have HV := hid hv
    clear hv
    apply lexH rfl; (· intro w' hw'; have hcc := cellsBelow hw'; go_simp; (try go_bits); exact ⟨rfl, hw'⟩); simp only [Act.put, List.setIfInBounds_toArray, List.set_cons_zero, List.set_cons_succ]
    apply lexH rfl
    · intro w' hw'; go_simp; (try go_bits); refine (valid_any b m _ hb).mono ?_; rintro e w'' ⟨rfl, hbb⟩; exact ⟨_, rfl, congrArg Value.bool HV.out, hw'.trans (hbb.mono (S0 _ hw'))⟩
    simp only [Act.put, List.setIfInBounds_toArray, List.set_cons_zero, List.set_cons_succ]
    apply lexF rfl; (· intro _; go_simp; (try go_bits); exact ⟨rfl, rfl⟩); simp only [Act.put, List.setIfInBounds_toArray, List.set_cons_zero, List.set_cons_succ]
    first | (apply lexN (j := 2) (d := 7) (b := true) rfl rfl rfl rfl; simp only [Act.put, List.setIfInBounds_toArray, List.set_cons_zero, List.set_cons_succ]) | (apply lexN' (j := 2) (d := 7) (b := true) rfl rfl rfl; simp only [Act.put, List.setIfInBounds_toArray, List.set_cons_zero, List.set_cons_succ]) | (apply lexHg (j := 2) (d := 7) (b := true) rfl rfl rfl rfl; (· intro w' hw'; have hcc := cellsBelow hw'; go_simp; (try go_bits); exact ⟨rfl, hw'⟩); simp only [Act.put, List.setIfInBounds_toArray, List.set_cons_zero, List.set_cons_succ])
    first | (apply lexN (j := 2) (d := 7) (b := true) rfl rfl rfl rfl; simp only [Act.put, List.setIfInBounds_toArray, List.set_cons_zero, List.set_cons_succ]) | (apply lexN' (j := 2) (d := 7) (b := true) rfl rfl rfl; simp only [Act.put, List.setIfInBounds_toArray, List.set_cons_zero, List.set_cons_succ]) | (apply lexFg (j := 2) (d := 7) (b := true) rfl rfl rfl rfl; (· intro _; go_simp; (try go_bits); exact ⟨rfl, rfl⟩); simp only [Act.put, List.setIfInBounds_toArray, List.set_cons_zero, List.set_cons_succ])
    first | (apply lexN (j := 2) (d := 7) (b := true) rfl rfl rfl rfl; simp only [Act.put, List.setIfInBounds_toArray, List.set_cons_zero, List.set_cons_succ]) | (apply lexN' (j := 2) (d := 7) (b := true) rfl rfl rfl; simp only [Act.put, List.setIfInBounds_toArray, List.set_cons_zero, List.set_cons_succ]) | (apply lexHg (j := 2) (d := 7) (b := true) rfl rfl rfl rfl; (· intro w' hw'; have hcc := cellsBelow hw'; go_simp; (try go_bits); exact ⟨rfl, hw'⟩); simp only [Act.put, List.setIfInBounds_toArray, List.set_cons_zero, List.set_cons_succ])
    first | (apply lexN (j := 2) (d := 7) (b := true) rfl rfl rfl rfl; simp only [Act.put, List.setIfInBounds_toArray, List.set_cons_zero, List.set_cons_succ]) | (apply lexN' (j := 2) (d := 7) (b := true) rfl rfl rfl; simp only [Act.put, List.setIfInBounds_toArray, List.set_cons_zero, List.set_cons_succ]) | (apply lexHg (j := 2) (d := 7) (b := true) rfl rfl rfl rfl; (· intro w' hw'; have hcc := cellsBelow hw'; go_simp; (try go_bits); exact ⟨rfl, hw'⟩); simp only [Act.put, List.setIfInBounds_toArray, List.set_cons_zero, List.set_cons_succ])
    apply lexF rfl; (· intro _; go_simp; (try go_bits); exact ⟨rfl, rfl⟩); simp only [Act.put, List.setIfInBounds_toArray, List.set_cons_zero, List.set_cons_succ]
    apply lexF rfl; (· intro _; go_simp; (try go_bits); exact ⟨rfl, rfl⟩); simp only [Act.put, List.setIfInBounds_toArray, List.set_cons_zero, List.set_cons_succ]
    first | (apply lexN (j := 8) (d := 13) (b := true) rfl rfl rfl rfl; simp only [Act.put, List.setIfInBounds_toArray, List.set_cons_zero, List.set_cons_succ]) | (apply lexN' (j := 8) (d := 13) (b := true) rfl rfl rfl; simp only [Act.put, List.setIfInBounds_toArray, List.set_cons_zero, List.set_cons_succ]) | (apply lexFg (j := 8) (d := 13) (b := true) rfl rfl rfl rfl; (· intro _; go_simp; (try go_bits); exact ⟨rfl, rfl⟩); simp only [Act.put, List.setIfInBounds_toArray, List.set_cons_zero, List.set_cons_succ])
    first | (apply lexN (j := 8) (d := 13) (b := true) rfl rfl rfl rfl; simp only [Act.put, List.setIfInBounds_toArray, List.set_cons_zero, List.set_cons_succ]) | (apply lexN' (j := 8) (d := 13) (b := true) rfl rfl rfl; simp only [Act.put, List.setIfInBounds_toArray, List.set_cons_zero, List.set_cons_succ]) | (apply lexHg (j := 8) (d := 13) (b := true) rfl rfl rfl rfl; (· intro w' hw'; have hcc := cellsBelow hw'; go_simp; (try go_bits); exact ⟨rfl, hw'⟩); simp only [Act.put, List.setIfInBounds_toArray, List.set_cons_zero, List.set_cons_succ])
    first | (apply lexN (j := 8) (d := 13) (b := true) rfl rfl rfl rfl; simp only [Act.put, List.setIfInBounds_toArray, List.set_cons_zero, List.set_cons_succ]) | (apply lexN' (j := 8) (d := 13) (b := true) rfl rfl rfl; simp only [Act.put, List.setIfInBounds_toArray, List.set_cons_zero, List.set_cons_succ]) | (apply lexFg (j := 8) (d := 13) (b := true) rfl rfl rfl rfl; (· intro _; go_simp; (try go_bits); exact ⟨rfl, rfl⟩); simp only [Act.put, List.setIfInBounds_toArray, List.set_cons_zero, List.set_cons_succ])
    first | (apply lexN (j := 8) (d := 13) (b := true) rfl rfl rfl rfl; simp only [Act.put, List.setIfInBounds_toArray, List.set_cons_zero, List.set_cons_succ]) | (apply lexN' (j := 8) (d := 13) (b := true) rfl rfl rfl; simp only [Act.put, List.setIfInBounds_toArray, List.set_cons_zero, List.set_cons_succ]) | (apply lexHg (j := 8) (d := 13) (b := true) rfl rfl rfl rfl; (· intro w' hw'; have hcc := cellsBelow hw'; go_simp; (try go_bits); exact ⟨rfl, hw'⟩); simp only [Act.put, List.setIfInBounds_toArray, List.set_cons_zero, List.set_cons_succ])
    first | (apply lexN (j := 8) (d := 13) (b := true) rfl rfl rfl rfl; simp only [Act.put, List.setIfInBounds_toArray, List.set_cons_zero, List.set_cons_succ]) | (apply lexN' (j := 8) (d := 13) (b := true) rfl rfl rfl; simp only [Act.put, List.setIfInBounds_toArray, List.set_cons_zero, List.set_cons_succ]) | (apply lexFg (j := 8) (d := 13) (b := true) rfl rfl rfl rfl; (· intro _; go_simp; (try go_bits); exact ⟨rfl, rfl⟩); simp only [Act.put, List.setIfInBounds_toArray, List.set_cons_zero, List.set_cons_succ])
    apply lexF rfl; (· intro _; go_simp; (try go_bits); exact ⟨rfl, rfl⟩); simp only [Act.put, List.setIfInBounds_toArray, List.set_cons_zero, List.set_cons_succ]
    apply lexF rfl; (· intro _; go_simp; (try go_bits); exact ⟨rfl, rfl⟩); simp only [Act.put, List.setIfInBounds_toArray, List.set_cons_zero, List.set_cons_succ]
    refine lexEnd (fun w2 hw2 => ?_)
    go_wp2
    go_ret
    exact ⟨by rw [E.out]; rfl, fin _ hw2⟩
  · cases hc : cts a n b
    · have E := hid (show cvr a n b m = false by simp [cvr, hv, hc])
      have HV := hid hv
      have HC := hid hc
      clear hv hc
      apply lexH rfl; (· intro w' hw'; have hcc := cellsBelow hw'; go_simp; (try go_bits); exact ⟨rfl, hw'⟩); simp only [Act.put, List.setIfInBounds_toArray, List.set_cons_zero, List.set_cons_succ]
      apply lexH rfl
      · intro w' hw'; go_simp; (try go_bits); refine (valid_any b m _ hb).mono ?_; rintro e w'' ⟨rfl, hbb⟩; exact ⟨_, rfl, congrArg Value.bool HV.out, hw'.trans (hbb.mono (S0 _ hw'))⟩
      simp only [Act.put, List.setIfInBounds_toArray, List.set_cons_zero, List.set_cons_succ]
      apply lexF rfl; (· intro _; go_simp; (try go_bits); exact ⟨rfl, rfl⟩); simp only [Act.put, List.setIfInBounds_toArray, List.set_cons_zero, List.set_cons_succ]
      first | (apply lexN (j := 2) (d := 7) (b := true) rfl rfl rfl rfl; simp only [Act.put, List.setIfInBounds_toArray, List.set_cons_zero, List.set_cons_succ]) | (apply lexN' (j := 2) (d := 7) (b := true) rfl rfl rfl; simp only [Act.put, List.setIfInBounds_toArray, List.set_cons_zero, List.set_cons_succ]) | (apply lexHg (j := 2) (d := 7) (b := true) rfl rfl rfl rfl; (· intro w' hw'; have hcc := cellsBelow hw'; go_simp; (try go_bits); exact ⟨rfl, hw'⟩); simp only [Act.put, List.setIfInBounds_toArray, List.set_cons_zero, List.set_cons_succ])
      first | (apply lexN (j := 2) (d := 7) (b := true) rfl rfl rfl rfl; simp only [Act.put, List.setIfInBounds_toArray, List.set_cons_zero, List.set_cons_succ]) | (apply lexN' (j := 2) (d := 7) (b := true) rfl rfl rfl; simp only [Act.put, List.setIfInBounds_toArray, List.set_cons_zero, List.set_cons_succ]) | (apply lexFg (j := 2) (d := 7) (b := true) rfl rfl rfl rfl; (· intro _; go_simp; (try go_bits); exact ⟨rfl, rfl⟩); simp only [Act.put, List.setIfInBounds_toArray, List.set_cons_zero, List.set_cons_succ])
      first | (apply lexN (j := 2) (d := 7) (b := true) rfl rfl rfl rfl; simp only [Act.put, List.setIfInBounds_toArray, List.set_cons_zero, List.set_cons_succ]) | (apply lexN' (j := 2) (d := 7) (b := true) rfl rfl rfl; simp only [Act.put, List.setIfInBounds_toArray, List.set_cons_zero, List.set_cons_succ]) | (apply lexHg (j := 2) (d := 7) (b := true) rfl rfl rfl rfl; (· intro w' hw'; have hcc := cellsBelow hw'; go_simp; (try go_bits); exact ⟨rfl, hw'⟩); simp only [Act.put, List.setIfInBounds_toArray, List.set_cons_zero, List.set_cons_succ])
      apply lexHg (j := 2) (d := 7) (b := true) rfl rfl rfl rfl
      · intro w' hw'; go_simp; (try go_bits); refine (contains_any a n b _ ha hb).mono ?_; rintro e w'' ⟨rfl, hbb⟩; exact ⟨_, rfl, congrArg Value.bool HC.out, hw'.trans (hbb.mono (S0 _ hw'))⟩
      simp only [Act.put, List.setIfInBounds_toArray, List.set_cons_zero, List.set_cons_succ]
      apply lexF rfl; (· intro _; go_simp; (try go_bits); exact ⟨rfl, rfl⟩); simp only [Act.put, List.setIfInBounds_toArray, List.set_cons_zero, List.set_cons_succ]
      apply lexF rfl; (· intro _; go_simp; (try go_bits); exact ⟨rfl, rfl⟩); simp only [Act.put, List.setIfInBounds_toArray, List.set_cons_zero, List.set_cons_succ]
      first | (apply lexN (j := 8) (d := 13) (b := true) rfl rfl rfl rfl; simp only [Act.put, List.setIfInBounds_toArray, List.set_cons_zero, List.set_cons_succ]) | (apply lexN' (j := 8) (d := 13) (b := true) rfl rfl rfl; simp only [Act.put, List.setIfInBounds_toArray, List.set_cons_zero, List.set_cons_succ]) | (apply lexFg (j := 8) (d := 13) (b := true) rfl rfl rfl rfl; (· intro _; go_simp; (try go_bits); exact ⟨rfl, rfl⟩); simp only [Act.put, List.setIfInBounds_toArray, List.set_cons_zero, List.set_cons_succ])
      first | (apply lexN (j := 8) (d := 13) (b := true) rfl rfl rfl rfl; simp only [Act.put, List.setIfInBounds_toArray, List.set_cons_zero, List.set_cons_succ]) | (apply lexN' (j := 8) (d := 13) (b := true) rfl rfl rfl; simp only [Act.put, List.setIfInBounds_toArray, List.set_cons_zero, List.set_cons_succ]) | (apply lexHg (j := 8) (d := 13) (b := true) rfl rfl rfl rfl; (· intro w' hw'; have hcc := cellsBelow hw'; go_simp; (try go_bits); exact ⟨rfl, hw'⟩); simp only [Act.put, List.setIfInBounds_toArray, List.set_cons_zero, List.set_cons_succ])
      first | (apply lexN (j := 8) (d := 13) (b := true) rfl rfl rfl rfl; simp only [Act.put, List.setIfInBounds_toArray, List.set_cons_zero, List.set_cons_succ]) | (apply lexN' (j := 8) (d := 13) (b := true) rfl rfl rfl; simp only [Act.put, List.setIfInBounds_toArray, List.set_cons_zero, List.set_cons_succ]) | (apply lexFg (j := 8) (d := 13) (b := true) rfl rfl rfl rfl; (· intro _; go_simp; (try go_bits); exact ⟨rfl, rfl⟩); simp only [Act.put, List.setIfInBounds_toArray, List.set_cons_zero, List.set_cons_succ])
      first | (apply lexN (j := 8) (d := 13) (b := true) rfl rfl rfl rfl; simp only [Act.put, List.setIfInBounds_toArray, List.set_cons_zero, List.set_cons_succ]) | (apply lexN' (j := 8) (d := 13) (b := true) rfl rfl rfl; simp only [Act.put, List.setIfInBounds_toArray, List.set_cons_zero, List.set_cons_succ]) | (apply lexHg (j := 8) (d := 13) (b := true) rfl rfl rfl rfl; (· intro w' hw'; have hcc := cellsBelow hw'; go_simp; (try go_bits); exact ⟨rfl, hw'⟩); simp only [Act.put, List.setIfInBounds_toArray, List.set_cons_zero, List.set_cons_succ])
      first | (apply lexN (j := 8) (d := 13) (b := true) rfl rfl rfl rfl; simp only [Act.put, List.setIfInBounds_toArray, List.set_cons_zero, List.set_cons_succ]) | (apply lexN' (j := 8) (d := 13) (b := true) rfl rfl rfl; simp only [Act.put, List.setIfInBounds_toArray, List.set_cons_zero, List.set_cons_succ]) | (apply lexFg (j := 8) (d := 13) (b := true) rfl rfl rfl rfl; (· intro _; go_simp; (try go_bits); exact ⟨rfl, rfl⟩); simp only [Act.put, List.setIfInBounds_toArray, List.set_cons_zero, List.set_cons_succ])
      apply lexF rfl; (· intro _; go_simp; (try go_bits); exact ⟨rfl, rfl⟩); simp only [Act.put, List.setIfInBounds_toArray, List.set_cons_zero, List.set_cons_succ]
      apply lexF rfl; (· intro _; go_simp; (try go_bits); exact ⟨rfl, rfl⟩); simp only [Act.put, List.setIfInBounds_toArray, List.set_cons_zero, List.set_cons_succ]
      refine lexEnd (fun w2 hw2 => ?_)
      go_wp2
      go_ret
      exact ⟨by rw [E.out]; rfl, fin _ hw2⟩
    · have E := hid (show cvr a n b m = decide (n ≤ m) by simp [cvr, hv, hc])
      have HV := hid hv
      have HC := hid hc
      clear hv hc
      apply lexH rfl; (· intro w' hw'; have hcc := cellsBelow hw'; go_simp; (try go_bits); exact ⟨rfl, hw'⟩); simp only [Act.put, List.setIfInBounds_toArray, List.set_cons_zero, List.set_cons_succ]
      apply lexH rfl
      · intro w' hw'; go_simp; (try go_bits); refine (valid_any b m _ hb).mono ?_; rintro e w'' ⟨rfl, hbb⟩; exact ⟨_, rfl, congrArg Value.bool HV.out, hw'.trans (hbb.mono (S0 _ hw'))⟩
      simp only [Act.put, List.setIfInBounds_toArray, List.set_cons_zero, List.set_cons_succ]
      apply lexF rfl; (· intro _; go_simp; (try go_bits); exact ⟨rfl, rfl⟩); simp only [Act.put, List.setIfInBounds_toArray, List.set_cons_zero, List.set_cons_succ]
      first | (apply lexN (j := 2) (d := 7) (b := true) rfl rfl rfl rfl; simp only [Act.put, List.setIfInBounds_toArray, List.set_cons_zero, List.set_cons_succ]) | (apply lexN' (j := 2) (d := 7) (b := true) rfl rfl rfl; simp only [Act.put, List.setIfInBounds_toArray, List.set_cons_zero, List.set_cons_succ]) | (apply lexHg (j := 2) (d := 7) (b := true) rfl rfl rfl rfl; (· intro w' hw'; have hcc := cellsBelow hw'; go_simp; (try go_bits); exact ⟨rfl, hw'⟩); simp only [Act.put, List.setIfInBounds_toArray, List.set_cons_zero, List.set_cons_succ])
      first | (apply lexN (j := 2) (d := 7) (b := true) rfl rfl rfl rfl; simp only [Act.put, List.setIfInBounds_toArray, List.set_cons_zero, List.set_cons_succ]) | (apply lexN' (j := 2) (d := 7) (b := true) rfl rfl rfl; simp only [Act.put, List.setIfInBounds_toArray, List.set_cons_zero, List.set_cons_succ]) | (apply lexFg (j := 2) (d := 7) (b := true) rfl rfl rfl rfl; (· intro _; go_simp; (try go_bits); exact ⟨rfl, rfl⟩); simp only [Act.put, List.setIfInBounds_toArray, List.set_cons_zero, List.set_cons_succ])
      first | (apply lexN (j := 2) (d := 7) (b := true) rfl rfl rfl rfl; simp only [Act.put, List.setIfInBounds_toArray, List.set_cons_zero, List.set_cons_succ]) | (apply lexN' (j := 2) (d := 7) (b := true) rfl rfl rfl; simp only [Act.put, List.setIfInBounds_toArray, List.set_cons_zero, List.set_cons_succ]) | (apply lexHg (j := 2) (d := 7) (b := true) rfl rfl rfl rfl; (· intro w' hw'; have hcc := cellsBelow hw'; go_simp; (try go_bits); exact ⟨rfl, hw'⟩); simp only [Act.put, List.setIfInBounds_toArray, List.set_cons_zero, List.set_cons_succ])
      apply lexHg (j := 2) (d := 7) (b := true) rfl rfl rfl rfl
      · intro w' hw'; go_simp; (try go_bits); refine (contains_any a n b _ ha hb).mono ?_; rintro e w'' ⟨rfl, hbb⟩; exact ⟨_, rfl, congrArg Value.bool HC.out, hw'.trans (hbb.mono (S0 _ hw'))⟩
      simp only [Act.put, List.setIfInBounds_toArray, List.set_cons_zero, List.set_cons_succ]
      apply lexF rfl; (· intro _; go_simp; (try go_bits); exact ⟨rfl, rfl⟩); simp only [Act.put, List.setIfInBounds_toArray, List.set_cons_zero, List.set_cons_succ]
      apply lexF rfl; (· intro _; go_simp; (try go_bits); exact ⟨rfl, rfl⟩); simp only [Act.put, List.setIfInBounds_toArray, List.set_cons_zero, List.set_cons_succ]
      first | (apply lexN (j := 8) (d := 13) (b := true) rfl rfl rfl rfl; simp only [Act.put, List.setIfInBounds_toArray, List.set_cons_zero, List.set_cons_succ]) | (apply lexN' (j := 8) (d := 13) (b := true) rfl rfl rfl; simp only [Act.put, List.setIfInBounds_toArray, List.set_cons_zero, List.set_cons_succ]) | (apply lexFg (j := 8) (d := 13) (b := true) rfl rfl rfl rfl; (· intro _; go_simp; (try go_bits); exact ⟨rfl, rfl⟩); simp only [Act.put, List.setIfInBounds_toArray, List.set_cons_zero, List.set_cons_succ])
      first | (apply lexN (j := 8) (d := 13) (b := true) rfl rfl rfl rfl; simp only [Act.put, List.setIfInBounds_toArray, List.set_cons_zero, List.set_cons_succ]) | (apply lexN' (j := 8) (d := 13) (b := true) rfl rfl rfl; simp only [Act.put, List.setIfInBounds_toArray, List.set_cons_zero, List.set_cons_succ]) | (apply lexHg (j := 8) (d := 13) (b := true) rfl rfl rfl rfl; (· intro w' hw'; have hcc := cellsBelow hw'; go_simp; (try go_bits); exact ⟨rfl, hw'⟩); simp only [Act.put, List.setIfInBounds_toArray, List.set_cons_zero, List.set_cons_succ])
      first | (apply lexN (j := 8) (d := 13) (b := true) rfl rfl rfl rfl; simp only [Act.put, List.setIfInBounds_toArray, List.set_cons_zero, List.set_cons_succ]) | (apply lexN' (j := 8) (d := 13) (b := true) rfl rfl rfl; simp only [Act.put, List.setIfInBounds_toArray, List.set_cons_zero, List.set_cons_succ]) | (apply lexFg (j := 8) (d := 13) (b := true) rfl rfl rfl rfl; (· intro _; go_simp; (try go_bits); exact ⟨rfl, rfl⟩); simp only [Act.put, List.setIfInBounds_toArray, List.set_cons_zero, List.set_cons_succ])
      first | (apply lexN (j := 8) (d := 13) (b := true) rfl rfl rfl rfl; simp only [Act.put, List.setIfInBounds_toArray, List.set_cons_zero, List.set_cons_succ]) | (apply lexN' (j := 8) (d := 13) (b := true) rfl rfl rfl; simp only [Act.put, List.setIfInBounds_toArray, List.set_cons_zero, List.set_cons_succ]) | (apply lexHg (j := 8) (d := 13) (b := true) rfl rfl rfl rfl; (· intro w' hw'; have hcc := cellsBelow hw'; go_simp; (try go_bits); exact ⟨rfl, hw'⟩); simp only [Act.put, List.setIfInBounds_toArray, List.set_cons_zero, List.set_cons_succ])
      first | (apply lexN (j := 8) (d := 13) (b := true) rfl rfl rfl rfl; simp only [Act.put, List.setIfInBounds_toArray, List.set_cons_zero, List.set_cons_succ]) | (apply lexN' (j := 8) (d := 13) (b := true) rfl rfl rfl; simp only [Act.put, List.setIfInBounds_toArray, List.set_cons_zero, List.set_cons_succ]) | (apply lexFg (j := 8) (d := 13) (b := true) rfl rfl rfl rfl; (· intro _; go_simp; (try go_bits); exact ⟨rfl, rfl⟩); simp only [Act.put, List.setIfInBounds_toArray, List.set_cons_zero, List.set_cons_succ])
      apply lexF rfl; (· intro _; go_simp; (try go_bits); exact ⟨rfl, rfl⟩); simp only [Act.put, List.setIfInBounds_toArray, List.set_cons_zero, List.set_cons_succ]
      apply lexF rfl; (· intro _; go_simp; (try go_bits); exact ⟨rfl, rfl⟩); simp only [Act.put, List.setIfInBounds_toArray, List.set_cons_zero, List.set_cons_succ]
      refine lexEnd (fun w2 hw2 => ?_)
      go_wp2
      go_ret
      exact ⟨by rw [E.out]; rfl, fin _ hw2⟩
end Go.Proofs.YtbbjjjaclbkolaaGreatDoor
namespace Go.Proofs.YtbbjjjaclbkolaaGreatDoor
open Go.RowKit
set_option maxHeartbeats 400000 in
theorem rmask_nat (n : Nat) (w : World) (hn : n ≤ 32) :
    Calls Tryz.prog 35 #[.int .i64 (n : Int)] w fun e w' => e = .returned (.int .u32 ((mk n : Nat) : Int)) ∧ w = w' := by
  go_enter Tryz.func35, Tryz.ntmps35
  go_wp2
  go_loop [3, 4] (fun m i => ∃ k : Nat, k ≤ n ∧ i = .int .i64 k ∧ m = .int .u32 ((mk k : Nat) : Int)) (fun _ i => n - (intOf i).toNat)
  case atStart => exact ⟨0, Nat.zero_le _, rfl, rfl⟩
  case round =>
    obtain ⟨k, hk, rfl, rfl⟩ := hrel
    by_cases hlt : k < n
    · have hp : 2 ^ (31 - k) ≤ 2 ^ 31 := Nat.pow_le_pow_right (by omega) (by omega)
      have hstep := hid (show bits BinOp.or IntKind.u32 ((mk k : Nat) : Int) ((2 : Int) ^ (31 - k) % 4294967296) = ((mk (k + 1) : Nat) : Int) by
        have e : ((2 : Int) ^ (31 - k) % 4294967296) = ((2 ^ (31 - k) : Nat) : Int) := by
          obtain ⟨q, hq⟩ : ∃ q : Nat, 2 ^ (31 - k) = q := ⟨_, rfl⟩
          have h2 : ((2 : Int) ^ (31 - k)) = (q : Int) := by rw [← hq]; simp
          rw [hq] at hp ⊢
          rw [h2]
          omega
        rw [e, u32_or_nat _ _ (mk_w32 k).lt (by omega), mk_step k (by omega)])
      clear hp
      go_wp2
      go_round
      case rel => exact ⟨k + 1, by omega, by go_num, by rw [hstep.out]⟩
      case measure => simp [intOf]; omega
    · obtain rfl : k = n := by omega
      go_wp2
      go_ret
      exact ⟨rfl, rfl⟩
theorem rmask_any (n : Int) (w : World) (h0 : 0 ≤ n) (h1 : n ≤ 32) :
    Calls Tryz.prog 35 #[.int .i64 n] w fun e w' => e = .returned (.int .u32 (maskI n)) ∧ w = w' := by
  obtain ⟨k, rfl⟩ := Int.eq_ofNat_of_zero_le h0
  rw [maskI_nat k (by omega)]
  exact rmask_nat k w (by omega)
set_option maxHeartbeats 400000 in
theorem rvalid_any (a : Nat) (n : Int) (w : World) (ha : W32 a) :
    Calls Tryz.prog 18 #[.agg #[.int .u32 (a : Int), .int .i64 n]] w fun e w' => e = .returned (.bool (vld a n)) ∧ Below w.heap.size w w' := by
  have fin : ∀ w2, Below (w.heap.size + 1) (w.alloc (.cells #[.int .u32 (a : Int), .int .i64 n] 31)) w2 → Below w.heap.size w w2 := fun w2 h =>
    ((Below.refl _ w).alloc (Nat.le_refl _) _).trans (h.mono (by omega))
  go_enter Tryz.func18, Tryz.ntmps18
  go_wp2
  refine wp_region_staged (fun w' => Below (w.heap.size + 1) (w.alloc (.cells #[.int .u32 (a : Int), .int .i64 n] 31)) w') [0, 1, 0, 0, 0, 1, 0, 0, 0, 0, 1, 0, 1, 1, 0, 0, 1, 0, 0, 0] (by kernel_rfl) (by kernel_rfl) (by kernel_rfl) (by exact (Below.refl _ _).drew) ?_
  by_cases h0 : 0 ≤ n
  · by_cases h1 : n ≤ 32
    · have e := bits_and_eq ha h0 h1
      apply lexF rfl; (· intro _; go_simp; (try go_bits); exact ⟨rfl, rfl⟩); simp only [Act.put, List.setIfInBounds_toArray, List.set_cons_zero, List.set_cons_succ]
      apply lexH rfl; (· intro w' hw'; have hcc := cellsBelow hw'; go_simp; (try go_bits); exact ⟨rfl, hw'⟩); simp only [Act.put, List.setIfInBounds_toArray, List.set_cons_zero, List.set_cons_succ]
      apply lexF rfl; (· intro _; go_simp; (try go_bits); exact ⟨rfl, rfl⟩); simp only [Act.put, List.setIfInBounds_toArray, List.set_cons_zero, List.set_cons_succ]
      apply lexF rfl; (· intro _; go_simp; (try go_bits); exact ⟨rfl, rfl⟩); simp only [Act.put, List.setIfInBounds_toArray, List.set_cons_zero, List.set_cons_succ]
      first | (apply lexN (j := 3) (d := 6) (b := true) rfl rfl rfl rfl; simp only [Act.put, List.setIfInBounds_toArray, List.set_cons_zero, List.set_cons_succ]) | (apply lexN' (j := 3) (d := 6) (b := true) rfl rfl rfl; simp only [Act.put, List.setIfInBounds_toArray, List.set_cons_zero, List.set_cons_succ]) | (apply lexFg (j := 3) (d := 6) (b := true) rfl rfl rfl rfl; (· intro _; go_simp; (try go_bits); exact ⟨rfl, rfl⟩); simp only [Act.put, List.setIfInBounds_toArray, List.set_cons_zero, List.set_cons_succ])
      first | (apply lexN (j := 3) (d := 6) (b := true) rfl rfl rfl rfl; simp only [Act.put, List.setIfInBounds_toArray, List.set_cons_zero, List.set_cons_succ]) | (apply lexN' (j := 3) (d := 6) (b := true) rfl rfl rfl; simp only [Act.put, List.setIfInBounds_toArray, List.set_cons_zero, List.set_cons_succ]) | (apply lexHg (j := 3) (d := 6) (b := true) rfl rfl rfl rfl; (· intro w' hw'; have hcc := cellsBelow hw'; go_simp; (try go_bits); exact ⟨rfl, hw'⟩); simp only [Act.put, List.setIfInBounds_toArray, List.set_cons_zero, List.set_cons_succ])
      first | (apply lexN (j := 3) (d := 6) (b := true) rfl rfl rfl rfl; simp only [Act.put, List.setIfInBounds_toArray, List.set_cons_zero, List.set_cons_succ]) | (apply lexN' (j := 3) (d := 6) (b := true) rfl rfl rfl; simp only [Act.put, List.setIfInBounds_toArray, List.set_cons_zero, List.set_cons_succ]) | (apply lexFg (j := 3) (d := 6) (b := true) rfl rfl rfl rfl; (· intro _; go_simp; (try go_bits); exact ⟨rfl, rfl⟩); simp only [Act.put, List.setIfInBounds_toArray, List.set_cons_zero, List.set_cons_succ])
      apply lexF rfl; (· intro _; go_simp; (try go_bits); exact ⟨rfl, rfl⟩); simp only [Act.put, List.setIfInBounds_toArray, List.set_cons_zero, List.set_cons_succ]
      apply lexF rfl; (· intro _; go_simp; (try go_bits); exact ⟨rfl, rfl⟩); simp only [Act.put, List.setIfInBounds_toArray, List.set_cons_zero, List.set_cons_succ]
      first | (apply lexN (j := 8) (d := 11) (b := true) rfl rfl rfl rfl; simp only [Act.put, List.setIfInBounds_toArray, List.set_cons_zero, List.set_cons_succ]) | (apply lexN' (j := 8) (d := 11) (b := true) rfl rfl rfl; simp only [Act.put, List.setIfInBounds_toArray, List.set_cons_zero, List.set_cons_succ]) | (apply lexFg (j := 8) (d := 11) (b := true) rfl rfl rfl rfl; (· intro _; go_simp; (try go_bits); exact ⟨rfl, rfl⟩); simp only [Act.put, List.setIfInBounds_toArray, List.set_cons_zero, List.set_cons_succ])
      first | (apply lexN (j := 8) (d := 11) (b := true) rfl rfl rfl rfl; simp only [Act.put, List.setIfInBounds_toArray, List.set_cons_zero, List.set_cons_succ]) | (apply lexN' (j := 8) (d := 11) (b := true) rfl rfl rfl; simp only [Act.put, List.setIfInBounds_toArray, List.set_cons_zero, List.set_cons_succ]) | (apply lexHg (j := 8) (d := 11) (b := true) rfl rfl rfl rfl; (· intro w' hw'; have hcc := cellsBelow hw'; go_simp; (try go_bits); exact ⟨rfl, hw'⟩); simp only [Act.put, List.setIfInBounds_toArray, List.set_cons_zero, List.set_cons_succ])
      first | (apply lexN (j := 8) (d := 11) (b := true) rfl rfl rfl rfl; simp only [Act.put, List.setIfInBounds_toArray, List.set_cons_zero, List.set_cons_succ]) | (apply lexN' (j := 8) (d := 11) (b := true) rfl rfl rfl; simp only [Act.put, List.setIfInBounds_toArray, List.set_cons_zero, List.set_cons_succ]) | (apply lexFg (j := 8) (d := 11) (b := true) rfl rfl rfl rfl; (· intro _; go_simp; (try go_bits); exact ⟨rfl, rfl⟩); simp only [Act.put, List.setIfInBounds_toArray, List.set_cons_zero, List.set_cons_succ])
      first | (apply lexN (j := 8) (d := 11) (b := true) rfl rfl rfl rfl; simp only [Act.put, List.setIfInBounds_toArray, List.set_cons_zero, List.set_cons_succ]) | (apply lexN' (j := 8) (d := 11) (b := true) rfl rfl rfl; simp only [Act.put, List.setIfInBounds_toArray, List.set_cons_zero, List.set_cons_succ]) | (apply lexHg (j := 8) (d := 11) (b := true) rfl rfl rfl rfl; (· intro w' hw'; have hcc := cellsBelow hw'; go_simp; (try go_bits); exact ⟨rfl, hw'⟩); simp only [Act.put, List.setIfInBounds_toArray, List.set_cons_zero, List.set_cons_succ])
      apply lexHg (j := 8) (d := 11) (b := true) rfl rfl rfl rfl
      · intro w' hw'; go_simp; (try go_bits); refine (rmask_any n _ h0 h1).mono ?_; rintro e w'' ⟨rfl, rfl⟩; exact ⟨_, rfl, rfl, hw'⟩
      simp only [Act.put, List.setIfInBounds_toArray, List.set_cons_zero, List.set_cons_succ]
      first | (apply lexN (j := 8) (d := 11) (b := true) rfl rfl rfl rfl; simp only [Act.put, List.setIfInBounds_toArray, List.set_cons_zero, List.set_cons_succ]) | (apply lexN' (j := 8) (d := 11) (b := true) rfl rfl rfl; simp only [Act.put, List.setIfInBounds_toArray, List.set_cons_zero, List.set_cons_succ]) | (apply lexFg (j := 8) (d := 11) (b := true) rfl rfl rfl rfl; (· intro _; go_simp; (try go_bits); exact ⟨rfl, rfl⟩); simp only [Act.put, List.setIfInBounds_toArray, List.set_cons_zero, List.set_cons_succ])
      first | (apply lexN (j := 8) (d := 11) (b := true) rfl rfl rfl rfl; simp only [Act.put, List.setIfInBounds_toArray, List.set_cons_zero, List.set_cons_succ]) | (apply lexN' (j := 8) (d := 11) (b := true) rfl rfl rfl; simp only [Act.put, List.setIfInBounds_toArray, List.set_cons_zero, List.set_cons_succ]) | (apply lexFg (j := 8) (d := 11) (b := true) rfl rfl rfl rfl; (· intro _; go_simp; (try go_bits); exact ⟨rfl, rfl⟩); simp only [Act.put, List.setIfInBounds_toArray, List.set_cons_zero, List.set_cons_succ])
      first | (apply lexN (j := 8) (d := 11) (b := true) rfl rfl rfl rfl; simp only [Act.put, List.setIfInBounds_toArray, List.set_cons_zero, List.set_cons_succ]) | (apply lexN' (j := 8) (d := 11) (b := true) rfl rfl rfl; simp only [Act.put, List.setIfInBounds_toArray, List.set_cons_zero, List.set_cons_succ]) | (apply lexHg (j := 8) (d := 11) (b := true) rfl rfl rfl rfl; (· intro w' hw'; have hcc := cellsBelow hw'; go_simp; (try go_bits); exact ⟨rfl, hw'⟩); simp only [Act.put, List.setIfInBounds_toArray, List.set_cons_zero, List.set_cons_succ])
      first | (apply lexN (j := 8) (d := 11) (b := true) rfl rfl rfl rfl; simp only [Act.put, List.setIfInBounds_toArray, List.set_cons_zero, List.set_cons_succ]) | (apply lexN' (j := 8) (d := 11) (b := true) rfl rfl rfl; simp only [Act.put, List.setIfInBounds_toArray, List.set_cons_zero, List.set_cons_succ]) | (apply lexFg (j := 8) (d := 11) (b := true) rfl rfl rfl rfl; (· intro _; go_simp; (try go_bits); exact ⟨rfl, rfl⟩); simp only [Act.put, List.setIfInBounds_toArray, List.set_cons_zero, List.set_cons_succ])
      apply lexF rfl; (· intro _; go_simp; (try go_bits); exact ⟨rfl, rfl⟩); simp only [Act.put, List.setIfInBounds_toArray, List.set_cons_zero, List.set_cons_succ]
      apply lexF rfl; (· intro _; go_simp; (try go_bits); exact ⟨rfl, rfl⟩); simp only [Act.put, List.setIfInBounds_toArray, List.set_cons_zero, List.set_cons_succ]
      refine lexEnd (fun w2 hw2 => ?_)
      go_wp2
      go_ret
      exact ⟨rfl, fin _ hw2⟩
    · have e := vld_big (a := a) h1
      have h2 : 32 < n := by omega
      apply lexF rfl; (· intro _; go_simp; (try go_bits); exact ⟨rfl, rfl⟩); simp only [Act.put, List.setIfInBounds_toArray, List.set_cons_zero, List.set_cons_succ]
      apply lexH rfl; (· intro w' hw'; have hcc := cellsBelow hw'; go_simp; (try go_bits); exact ⟨rfl, hw'⟩); simp only [Act.put, List.setIfInBounds_toArray, List.set_cons_zero, List.set_cons_succ]
      apply lexF rfl; (· intro _; go_simp; (try go_bits); exact ⟨rfl, rfl⟩); simp only [Act.put, List.setIfInBounds_toArray, List.set_cons_zero, List.set_cons_succ]
      apply lexF rfl; (· intro _; go_simp; (try go_bits); exact ⟨rfl, rfl⟩); simp only [Act.put, List.setIfInBounds_toArray, List.set_cons_zero, List.set_cons_succ]
      first | (apply lexN (j := 3) (d := 6) (b := true) rfl rfl rfl rfl; simp only [Act.put, List.setIfInBounds_toArray, List.set_cons_zero, List.set_cons_succ]) | (apply lexN' (j := 3) (d := 6) (b := true) rfl rfl rfl; simp only [Act.put, List.setIfInBounds_toArray, List.set_cons_zero, List.set_cons_succ]) | (apply lexFg (j := 3) (d := 6) (b := true) rfl rfl rfl rfl; (· intro _; go_simp; (try go_bits); exact ⟨rfl, rfl⟩); simp only [Act.put, List.setIfInBounds_toArray, List.set_cons_zero, List.set_cons_succ])
      first | (apply lexN (j := 3) (d := 6) (b := true) rfl rfl rfl rfl; simp only [Act.put, List.setIfInBounds_toArray, List.set_cons_zero, List.set_cons_succ]) | (apply lexN' (j := 3) (d := 6) (b := true) rfl rfl rfl; simp only [Act.put, List.setIfInBounds_toArray, List.set_cons_zero, List.set_cons_succ]) | (apply lexHg (j := 3) (d := 6) (b := true) rfl rfl rfl rfl; (· intro w' hw'; have hcc := cellsBelow hw'; go_simp; (try go_bits); exact ⟨rfl, hw'⟩); simp only [Act.put, List.setIfInBounds_toArray, List.set_cons_zero, List.set_cons_succ])
      first | (apply lexN (j := 3) (d := 6) (b := true) rfl rfl rfl rfl; simp only [Act.put, List.setIfInBounds_toArray, List.set_cons_zero, List.set_cons_succ]) | (apply lexN' (j := 3) (d := 6) (b := true) rfl rfl rfl; simp only [Act.put, List.setIfInBounds_toArray, List.set_cons_zero, List.set_cons_succ]) | (apply lexFg (j := 3) (d := 6) (b := true) rfl rfl rfl rfl; (· intro _; go_simp; (try go_bits); exact ⟨rfl, rfl⟩); simp only [Act.put, List.setIfInBounds_toArray, List.set_cons_zero, List.set_cons_succ])
      apply lexF rfl; (· intro _; go_simp; (try go_bits); exact ⟨rfl, rfl⟩); simp only [Act.put, List.setIfInBounds_toArray, List.set_cons_zero, List.set_cons_succ]
      apply lexF rfl; (· intro _; go_simp; (try go_bits); exact ⟨rfl, rfl⟩); simp only [Act.put, List.setIfInBounds_toArray, List.set_cons_zero, List.set_cons_succ]
      first | (apply lexN (j := 8) (d := 11) (b := true) rfl rfl rfl rfl; simp only [Act.put, List.setIfInBounds_toArray, List.set_cons_zero, List.set_cons_succ]) | (apply lexN' (j := 8) (d := 11) (b := true) rfl rfl rfl; simp only [Act.put, List.setIfInBounds_toArray, List.set_cons_zero, List.set_cons_succ]) | (apply lexFg (j := 8) (d := 11) (b := true) rfl rfl rfl rfl; (· intro _; go_simp; (try go_bits); exact ⟨rfl, rfl⟩); simp only [Act.put, List.setIfInBounds_toArray, List.set_cons_zero, List.set_cons_succ])
      first | (apply lexN (j := 8) (d := 11) (b := true) rfl rfl rfl rfl; simp only [Act.put, List.setIfInBounds_toArray, List.set_cons_zero, List.set_cons_succ]) | (apply lexN' (j := 8) (d := 11) (b := true) rfl rfl rfl; simp only [Act.put, List.setIfInBounds_toArray, List.set_cons_zero, List.set_cons_succ]) | (apply lexHg (j := 8) (d := 11) (b := true) rfl rfl rfl rfl; (· intro w' hw'; have hcc := cellsBelow hw'; go_simp; (try go_bits); exact ⟨rfl, hw'⟩); simp only [Act.put, List.setIfInBounds_toArray, List.set_cons_zero, List.set_cons_succ])
      first | (apply lexN (j := 8) (d := 11) (b := true) rfl rfl rfl rfl; simp only [Act.put, List.setIfInBounds_toArray, List.set_cons_zero, List.set_cons_succ]) | (apply lexN' (j := 8) (d := 11) (b := true) rfl rfl rfl; simp only [Act.put, List.setIfInBounds_toArray, List.set_cons_zero, List.set_cons_succ]) | (apply lexFg (j := 8) (d := 11) (b := true) rfl rfl rfl rfl; (· intro _; go_simp; (try go_bits); exact ⟨rfl, rfl⟩); simp only [Act.put, List.setIfInBounds_toArray, List.set_cons_zero, List.set_cons_succ])
      first | (apply lexN (j := 8) (d := 11) (b := true) rfl rfl rfl rfl; simp only [Act.put, List.setIfInBounds_toArray, List.set_cons_zero, List.set_cons_succ]) | (apply lexN' (j := 8) (d := 11) (b := true) rfl rfl rfl; simp only [Act.put, List.setIfInBounds_toArray, List.set_cons_zero, List.set_cons_succ]) | (apply lexHg (j := 8) (d := 11) (b := true) rfl rfl rfl rfl; (· intro w' hw'; have hcc := cellsBelow hw'; go_simp; (try go_bits); exact ⟨rfl, hw'⟩); simp only [Act.put, List.setIfInBounds_toArray, List.set_cons_zero, List.set_cons_succ])
      first | (apply lexN (j := 8) (d := 11) (b := true) rfl rfl rfl rfl; simp only [Act.put, List.setIfInBounds_toArray, List.set_cons_zero, List.set_cons_succ]) | (apply lexN' (j := 8) (d := 11) (b := true) rfl rfl rfl; simp only [Act.put, List.setIfInBounds_toArray, List.set_cons_zero, List.set_cons_succ]) | (apply lexHg (j := 8) (d := 11) (b := true) rfl rfl rfl rfl; (· intro w' hw'; have hcc := cellsBelow hw'; go_simp; (try go_bits); exact ⟨rfl, hw'⟩); simp only [Act.put, List.setIfInBounds_toArray, List.set_cons_zero, List.set_cons_succ])
      first | (apply lexN (j := 8) (d := 11) (b := true) rfl rfl rfl rfl; simp only [Act.put, List.setIfInBounds_toArray, List.set_cons_zero, List.set_cons_succ]) | (apply lexN' (j := 8) (d := 11) (b := true) rfl rfl rfl; simp only [Act.put, List.setIfInBounds_toArray, List.set_cons_zero, List.set_cons_succ]) | (apply lexFg (j := 8) (d := 11) (b := true) rfl rfl rfl rfl; (· intro _; go_simp; (try go_bits); exact ⟨rfl, rfl⟩); simp only [Act.put, List.setIfInBounds_toArray, List.set_cons_zero, List.set_cons_succ])
      first | (apply lexN (j := 8) (d := 11) (b := true) rfl rfl rfl rfl; simp only [Act.put, List.setIfInBounds_toArray, List.set_cons_zero, List.set_cons_succ]) | (apply lexN' (j := 8) (d := 11) (b := true) rfl rfl rfl; simp only [Act.put, List.setIfInBounds_toArray, List.set_cons_zero, List.set_cons_succ]) | (apply lexFg (j := 8) (d := 11) (b := true) rfl rfl rfl rfl; (· intro _; go_simp; (try go_bits); exact ⟨rfl, rfl⟩); simp only [Act.put, List.setIfInBounds_toArray, List.set_cons_zero, List.set_cons_succ])
      first | (apply lexN (j := 8) (d := 11) (b := true) rfl rfl rfl rfl; simp only [Act.put, List.setIfInBounds_toArray, List.set_cons_zero, List.set_cons_succ]) | (apply lexN' (j := 8) (d := 11) (b := true) rfl rfl rfl; simp only [Act.put, List.setIfInBounds_toArray, List.set_cons_zero, List.set_cons_succ]) | (apply lexHg (j := 8) (d := 11) (b := true) rfl rfl rfl rfl; (· intro w' hw'; have hcc := cellsBelow hw'; go_simp; (try go_bits); exact ⟨rfl, hw'⟩); simp only [Act.put, List.setIfInBounds_toArray, List.set_cons_zero, List.set_cons_succ])
      first | (apply lexN (j := 8) (d := 11) (b := true) rfl rfl rfl rfl; simp only [Act.put, List.setIfInBounds_toArray, List.set_cons_zero, List.set_cons_succ]) | (apply lexN' (j := 8) (d := 11) (b := true) rfl rfl rfl; simp only [Act.put, List.setIfInBounds_toArray, List.set_cons_zero, List.set_cons_succ]) | (apply lexFg (j := 8) (d := 11) (b := true) rfl rfl rfl rfl; (· intro _; go_simp; (try go_bits); exact ⟨rfl, rfl⟩); simp only [Act.put, List.setIfInBounds_toArray, List.set_cons_zero, List.set_cons_succ])
      apply lexF rfl; (· intro _; go_simp; (try go_bits); exact ⟨rfl, rfl⟩); simp only [Act.put, List.setIfInBounds_toArray, List.set_cons_zero, List.set_cons_succ]
      apply lexF rfl; (· intro _; go_simp; (try go_bits); exact ⟨rfl, rfl⟩); simp only [Act.put, List.setIfInBounds_toArray, List.set_cons_zero, List.set_cons_succ]
      refine lexEnd (fun w2 hw2 => ?_)
      go_wp2
      go_ret
      exact ⟨rfl, fin _ hw2⟩
  · have e := vld_neg (a := a) h0
    have h2 : n < 0 := by omega
    apply lexF rfl; (· intro _; go_simp; (try go_bits); exact ⟨rfl, rfl⟩); simp only [Act.put, List.setIfInBounds_toArray, List.set_cons_zero, List.set_cons_succ]
    apply lexH rfl; (· intro w' hw'; have hcc := cellsBelow hw'; go_simp; (try go_bits); exact ⟨rfl, hw'⟩); simp only [Act.put, List.setIfInBounds_toArray, List.set_cons_zero, List.set_cons_succ]
    apply lexF rfl; (· intro _; go_simp; (try go_bits); exact ⟨rfl, rfl⟩); simp only [Act.put, List.setIfInBounds_toArray, List.set_cons_zero, List.set_cons_succ]
    apply lexF rfl; (· intro _; go_simp; (try go_bits); exact ⟨rfl, rfl⟩); simp only [Act.put, List.setIfInBounds_toArray, List.set_cons_zero, List.set_cons_succ]
    first | (apply lexN (j := 3) (d := 6) (b := true) rfl rfl rfl rfl; simp only [Act.put, List.setIfInBounds_toArray, List.set_cons_zero, List.set_cons_succ]) | (apply lexN' (j := 3) (d := 6) (b := true) rfl rfl rfl; simp only [Act.put, List.setIfInBounds_toArray, List.set_cons_zero, List.set_cons_succ]) | (apply lexFg (j := 3) (d := 6) (b := true) rfl rfl rfl rfl; (· intro _; go_simp; (try go_bits); exact ⟨rfl, rfl⟩); simp only [Act.put, List.setIfInBounds_toArray, List.set_cons_zero, List.set_cons_succ])
    first | (apply lexN (j := 3) (d := 6) (b := true) rfl rfl rfl rfl; simp only [Act.put, List.setIfInBounds_toArray, List.set_cons_zero, List.set_cons_succ]) | (apply lexN' (j := 3) (d := 6) (b := true) rfl rfl rfl; simp only [Act.put, List.setIfInBounds_toArray, List.set_cons_zero, List.set_cons_succ]) | (apply lexHg (j := 3) (d := 6) (b := true) rfl rfl rfl rfl; (· intro w' hw'; have hcc := cellsBelow hw'; go_simp; (try go_bits); exact ⟨rfl, hw'⟩); simp only [Act.put, List.setIfInBounds_toArray, List.set_cons_zero, List.set_cons_succ])
    first | (apply lexN (j := 3) (d := 6) (b := true) rfl rfl rfl rfl; simp only [Act.put, List.setIfInBounds_toArray, List.set_cons_zero, List.set_cons_succ]) | (apply lexN' (j := 3) (d := 6) (b := true) rfl rfl rfl; simp only [Act.put, List.setIfInBounds_toArray, List.set_cons_zero, List.set_cons_succ]) | (apply lexFg (j := 3) (d := 6) (b := true) rfl rfl rfl rfl; (· intro _; go_simp; (try go_bits); exact ⟨rfl, rfl⟩); simp only [Act.put, List.setIfInBounds_toArray, List.set_cons_zero, List.set_cons_succ])
    apply lexF rfl; (· intro _; go_simp; (try go_bits); exact ⟨rfl, rfl⟩); simp only [Act.put, List.setIfInBounds_toArray, List.set_cons_zero, List.set_cons_succ]
    apply lexF rfl; (· intro _; go_simp; (try go_bits); exact ⟨rfl, rfl⟩); simp only [Act.put, List.setIfInBounds_toArray, List.set_cons_zero, List.set_cons_succ]
    first | (apply lexN (j := 8) (d := 11) (b := true) rfl rfl rfl rfl; simp only [Act.put, List.setIfInBounds_toArray, List.set_cons_zero, List.set_cons_succ]) | (apply lexN' (j := 8) (d := 11) (b := true) rfl rfl rfl; simp only [Act.put, List.setIfInBounds_toArray, List.set_cons_zero, List.set_cons_succ]) | (apply lexFg (j := 8) (d := 11) (b := true) rfl rfl rfl rfl; (· intro _; go_simp; (try go_bits); exact ⟨rfl, rfl⟩); simp only [Act.put, List.setIfInBounds_toArray, List.set_cons_zero, List.set_cons_succ])
    first | (apply lexN (j := 8) (d := 11) (b := true) rfl rfl rfl rfl; simp only [Act.put, List.setIfInBounds_toArray, List.set_cons_zero, List.set_cons_succ]) | (apply lexN' (j := 8) (d := 11) (b := true) rfl rfl rfl; simp only [Act.put, List.setIfInBounds_toArray, List.set_cons_zero, List.set_cons_succ]) | (apply lexHg (j := 8) (d := 11) (b := true) rfl rfl rfl rfl; (· intro w' hw'; have hcc := cellsBelow hw'; go_simp; (try go_bits); exact ⟨rfl, hw'⟩); simp only [Act.put, List.setIfInBounds_toArray, List.set_cons_zero, List.set_cons_succ])
    first | (apply lexN (j := 8) (d := 11) (b := true) rfl rfl rfl rfl; simp only [Act.put, List.setIfInBounds_toArray, List.set_cons_zero, List.set_cons_succ]) | (apply lexN' (j := 8) (d := 11) (b := true) rfl rfl rfl; simp only [Act.put, List.setIfInBounds_toArray, List.set_cons_zero, List.set_cons_succ]) | (apply lexFg (j := 8) (d := 11) (b := true) rfl rfl rfl rfl; (· intro _; go_simp; (try go_bits); exact ⟨rfl, rfl⟩); simp only [Act.put, List.setIfInBounds_toArray, List.set_cons_zero, List.set_cons_succ])
    first | (apply lexN (j := 8) (d := 11) (b := true) rfl rfl rfl rfl; simp only [Act.put, List.setIfInBounds_toArray, List.set_cons_zero, List.set_cons_succ]) | (apply lexN' (j := 8) (d := 11) (b := true) rfl rfl rfl; simp only [Act.put, List.setIfInBounds_toArray, List.set_cons_zero, List.set_cons_succ]) | (apply lexHg (j := 8) (d := 11) (b := true) rfl rfl rfl rfl; (· intro w' hw'; have hcc := cellsBelow hw'; go_simp; (try go_bits); exact ⟨rfl, hw'⟩); simp only [Act.put, List.setIfInBounds_toArray, List.set_cons_zero, List.set_cons_succ])
    first | (apply lexN (j := 8) (d := 11) (b := true) rfl rfl rfl rfl; simp only [Act.put, List.setIfInBounds_toArray, List.set_cons_zero, List.set_cons_succ]) | (apply lexN' (j := 8) (d := 11) (b := true) rfl rfl rfl; simp only [Act.put, List.setIfInBounds_toArray, List.set_cons_zero, List.set_cons_succ]) | (apply lexHg (j := 8) (d := 11) (b := true) rfl rfl rfl rfl; (· intro w' hw'; have hcc := cellsBelow hw'; go_simp; (try go_bits); exact ⟨rfl, hw'⟩); simp only [Act.put, List.setIfInBounds_toArray, List.set_cons_zero, List.set_cons_succ])
    first | (apply lexN (j := 8) (d := 11) (b := true) rfl rfl rfl rfl; simp only [Act.put, List.setIfInBounds_toArray, List.set_cons_zero, List.set_cons_succ]) | (apply lexN' (j := 8) (d := 11) (b := true) rfl rfl rfl; simp only [Act.put, List.setIfInBounds_toArray, List.set_cons_zero, List.set_cons_succ]) | (apply lexFg (j := 8) (d := 11) (b := true) rfl rfl rfl rfl; (· intro _; go_simp; (try go_bits); exact ⟨rfl, rfl⟩); simp only [Act.put, List.setIfInBounds_toArray, List.set_cons_zero, List.set_cons_succ])
    first | (apply lexN (j := 8) (d := 11) (b := true) rfl rfl rfl rfl; simp only [Act.put, List.setIfInBounds_toArray, List.set_cons_zero, List.set_cons_succ]) | (apply lexN' (j := 8) (d := 11) (b := true) rfl rfl rfl; simp only [Act.put, List.setIfInBounds_toArray, List.set_cons_zero, List.set_cons_succ]) | (apply lexFg (j := 8) (d := 11) (b := true) rfl rfl rfl rfl; (· intro _; go_simp; (try go_bits); exact ⟨rfl, rfl⟩); simp only [Act.put, List.setIfInBounds_toArray, List.set_cons_zero, List.set_cons_succ])
    first | (apply lexN (j := 8) (d := 11) (b := true) rfl rfl rfl rfl; simp only [Act.put, List.setIfInBounds_toArray, List.set_cons_zero, List.set_cons_succ]) | (apply lexN' (j := 8) (d := 11) (b := true) rfl rfl rfl; simp only [Act.put, List.setIfInBounds_toArray, List.set_cons_zero, List.set_cons_succ]) | (apply lexHg (j := 8) (d := 11) (b := true) rfl rfl rfl rfl; (· intro w' hw'; have hcc := cellsBelow hw'; go_simp; (try go_bits); exact ⟨rfl, hw'⟩); simp only [Act.put, List.setIfInBounds_toArray, List.set_cons_zero, List.set_cons_succ])
    first | (apply lexN (j := 8) (d := 11) (b := true) rfl rfl rfl rfl; simp only [Act.put, List.setIfInBounds_toArray, List.set_cons_zero, List.set_cons_succ]) | (apply lexN' (j := 8) (d := 11) (b := true) rfl rfl rfl; simp only [Act.put, List.setIfInBounds_toArray, List.set_cons_zero, List.set_cons_succ]) | (apply lexFg (j := 8) (d := 11) (b := true) rfl rfl rfl rfl; (· intro _; go_simp; (try go_bits); exact ⟨rfl, rfl⟩); simp only [Act.put, List.setIfInBounds_toArray, List.set_cons_zero, List.set_cons_succ])
    apply lexF rfl; (· intro _; go_simp; (try go_bits); exact ⟨rfl, rfl⟩); simp only [Act.put, List.setIfInBounds_toArray, List.set_cons_zero, List.set_cons_succ]
    apply lexF rfl; (· intro _; go_simp; (try go_bits); exact ⟨rfl, rfl⟩); simp only [Act.put, List.setIfInBounds_toArray, List.set_cons_zero, List.set_cons_succ]
    refine lexEnd (fun w2 hw2 => ?_)
    go_wp2
    go_ret
    exact ⟨rfl, fin _ hw2⟩
set_option maxHeartbeats 400000 in
theorem rcontains_any (a : Nat) (n : Int) (x : Nat) (w : World) (ha : W32 a) (hx : W32 x) :
    Calls Tryz.prog 73 #[.agg #[.int .u32 (a : Int), .int .i64 n], .int .u32 (x : Int)] w fun e w' => e = .returned (.bool (cts a n x)) ∧ Below w.heap.size w w' := by
  have fin : ∀ w2, Below (w.heap.size + 1) (w.alloc (.cells #[.int .u32 (a : Int), .int .i64 n] 31)) w2 → Below w.heap.size w w2 := fun w2 h =>
    ((Below.refl _ w).alloc (Nat.le_refl _) _).trans (h.mono (by omega))
  go_enter Tryz.func73, Tryz.ntmps73
  go_wp2
  refine wp_region_staged (fun w' => Below (w.heap.size + 1) (w.alloc (.cells #[.int .u32 (a : Int), .int .i64 n] 31)) w') [1, 1, 0, 0, 0, 1, 1, 0, 0, 1, 0, 0, 0] (by kernel_rfl) (by kernel_rfl) (by kernel_rfl) (by exact (Below.refl _ _).drew) ?_
  cases hv : vld a n
  · have E := hid (show cts a n x = false by simp [cts, hv])
    have HV := hid hv
    clear hv
    apply lexH rfl; (· intro w' hw'; have hcc := cellsBelow hw'; go_simp; (try go_bits); exact ⟨rfl, hw'⟩); simp only [Act.put, List.setIfInBounds_toArray, List.set_cons_zero, List.set_cons_succ]
    apply lexH rfl
    · intro w' hw'; go_simp; (try go_bits); refine (rvalid_any a n _ ha).mono ?_; rintro e w'' ⟨rfl, hb⟩; exact ⟨_, rfl, congrArg Value.bool HV.out, hw'.trans (hb.mono (by have := hw'.size; simp at this; omega))⟩
    simp only [Act.put, List.setIfInBounds_toArray, List.set_cons_zero, List.set_cons_succ]
    apply lexF rfl; (· intro _; go_simp; (try go_bits); exact ⟨rfl, rfl⟩); simp only [Act.put, List.setIfInBounds_toArray, List.set_cons_zero, List.set_cons_succ]
    first | (apply lexN (j := 2) (d := 7) (b := true) rfl rfl rfl rfl; simp only [Act.put, List.setIfInBounds_toArray, List.set_cons_zero, List.set_cons_succ]) | (apply lexN' (j := 2) (d := 7) (b := true) rfl rfl rfl; simp only [Act.put, List.setIfInBounds_toArray, List.set_cons_zero, List.set_cons_succ]) | (apply lexFg (j := 2) (d := 7) (b := true) rfl rfl rfl rfl; (· intro _; go_simp; (try go_bits); exact ⟨rfl, rfl⟩); simp only [Act.put, List.setIfInBounds_toArray, List.set_cons_zero, List.set_cons_succ])
    first | (apply lexN (j := 2) (d := 7) (b := true) rfl rfl rfl rfl; simp only [Act.put, List.setIfInBounds_toArray, List.set_cons_zero, List.set_cons_succ]) | (apply lexN' (j := 2) (d := 7) (b := true) rfl rfl rfl; simp only [Act.put, List.setIfInBounds_toArray, List.set_cons_zero, List.set_cons_succ]) | (apply lexFg (j := 2) (d := 7) (b := true) rfl rfl rfl rfl; (· intro _; go_simp; (try go_bits); exact ⟨rfl, rfl⟩); simp only [Act.put, List.setIfInBounds_toArray, List.set_cons_zero, List.set_cons_succ])
    first | (apply lexN (j := 2) (d := 7) (b := true) rfl rfl rfl rfl; simp only [Act.put, List.setIfInBounds_toArray, List.set_cons_zero, List.set_cons_succ]) | (apply lexN' (j := 2) (d := 7) (b := true) rfl rfl rfl; simp only [Act.put, List.setIfInBounds_toArray, List.set_cons_zero, List.set_cons_succ]) | (apply lexHg (j := 2) (d := 7) (b := true) rfl rfl rfl rfl; (· intro w' hw'; have hcc := cellsBelow hw'; go_simp; (try go_bits); exact ⟨rfl, hw'⟩); simp only [Act.put, List.setIfInBounds_toArray, List.set_cons_zero, List.set_cons_succ])
    first | (apply lexN (j := 2) (d := 7) (b := true) rfl rfl rfl rfl; simp only [Act.put, List.setIfInBounds_toArray, List.set_cons_zero, List.set_cons_succ]) | (apply lexN' (j := 2) (d := 7) (b := true) rfl rfl rfl; simp only [Act.put, List.setIfInBounds_toArray, List.set_cons_zero, List.set_cons_succ]) | (apply lexHg (j := 2) (d := 7) (b := true) rfl rfl rfl rfl; (· intro w' hw'; have hcc := cellsBelow hw'; go_simp; (try go_bits); exact ⟨rfl, hw'⟩); simp only [Act.put, List.setIfInBounds_toArray, List.set_cons_zero, List.set_cons_succ])
    first | (apply lexN (j := 2) (d := 7) (b := true) rfl rfl rfl rfl; simp only [Act.put, List.setIfInBounds_toArray, List.set_cons_zero, List.set_cons_succ]) | (apply lexN' (j := 2) (d := 7) (b := true) rfl rfl rfl; simp only [Act.put, List.setIfInBounds_toArray, List.set_cons_zero, List.set_cons_succ]) | (apply lexFg (j := 2) (d := 7) (b := true) rfl rfl rfl rfl; (· intro _; go_simp; (try go_bits); exact ⟨rfl, rfl⟩); simp only [Act.put, List.setIfInBounds_toArray, List.set_cons_zero, List.set_cons_succ])
    first | (apply lexN (j := 2) (d := 7) (b := true) rfl rfl rfl rfl; simp only [Act.put, List.setIfInBounds_toArray, List.set_cons_zero, List.set_cons_succ]) | (apply lexN' (j := 2) (d := 7) (b := true) rfl rfl rfl; simp only [Act.put, List.setIfInBounds_toArray, List.set_cons_zero, List.set_cons_succ]) | (apply lexFg (j := 2) (d := 7) (b := true) rfl rfl rfl rfl; (· intro _; go_simp; (try go_bits); exact ⟨rfl, rfl⟩); simp only [Act.put, List.setIfInBounds_toArray, List.set_cons_zero, List.set_cons_succ])
    first | (apply lexN (j := 2) (d := 7) (b := true) rfl rfl rfl rfl; simp only [Act.put, List.setIfInBounds_toArray, List.set_cons_zero, List.set_cons_succ]) | (apply lexN' (j := 2) (d := 7) (b := true) rfl rfl rfl; simp only [Act.put, List.setIfInBounds_toArray, List.set_cons_zero, List.set_cons_succ]) | (apply lexHg (j := 2) (d := 7) (b := true) rfl rfl rfl rfl; (· intro w' hw'; have hcc := cellsBelow hw'; go_simp; (try go_bits); exact ⟨rfl, hw'⟩); simp only [Act.put, List.setIfInBounds_toArray, List.set_cons_zero, List.set_cons_succ])
    first | (apply lexN (j := 2) (d := 7) (b := true) rfl rfl rfl rfl; simp only [Act.put, List.setIfInBounds_toArray, List.set_cons_zero, List.set_cons_succ]) | (apply lexN' (j := 2) (d := 7) (b := true) rfl rfl rfl; simp only [Act.put, List.setIfInBounds_toArray, List.set_cons_zero, List.set_cons_succ]) | (apply lexFg (j := 2) (d := 7) (b := true) rfl rfl rfl rfl; (· intro _; go_simp; (try go_bits); exact ⟨rfl, rfl⟩); simp only [Act.put, List.setIfInBounds_toArray, List.set_cons_zero, List.set_cons_succ])
    apply lexF rfl; (· intro _; go_simp; (try go_bits); exact ⟨rfl, rfl⟩); simp only [Act.put, List.setIfInBounds_toArray, List.set_cons_zero, List.set_cons_succ]
    apply lexF rfl; (· intro _; go_simp; (try go_bits); exact ⟨rfl, rfl⟩); simp only [Act.put, List.setIfInBounds_toArray, List.set_cons_zero, List.set_cons_succ]
    refine lexEnd (fun w2 hw2 => ?_)
    go_wp2
    go_ret
    exact ⟨by rw [E.out]; rfl, fin _ hw2⟩
  · obtain ⟨h0, h1, h2⟩ := vld_iff.1 hv
    have E := hid (show cts a n x = decide (base n.toNat x = a) by simp [cts, hv])
    have HV := hid hv
    have e2 := bits_and_mask hx h0 h1
    clear hv h2
    apply lexH rfl; (· intro w' hw'; have hcc := cellsBelow hw'; go_simp; (try go_bits); exact ⟨rfl, hw'⟩); simp only [Act.put, List.setIfInBounds_toArray, List.set_cons_zero, List.set_cons_succ]
    apply lexH rfl
    · intro w' hw'; go_simp; (try go_bits); refine (rvalid_any a n _ ha).mono ?_; rintro e w'' ⟨rfl, hb⟩; exact ⟨_, rfl, congrArg Value.bool HV.out, hw'.trans (hb.mono (by have := hw'.size; simp at this; omega))⟩
    simp only [Act.put, List.setIfInBounds_toArray, List.set_cons_zero, List.set_cons_succ]
    apply lexF rfl; (· intro _; go_simp; (try go_bits); exact ⟨rfl, rfl⟩); simp only [Act.put, List.setIfInBounds_toArray, List.set_cons_zero, List.set_cons_succ]
    first | (apply lexN (j := 2) (d := 7) (b := true) rfl rfl rfl rfl; simp only [Act.put, List.setIfInBounds_toArray, List.set_cons_zero, List.set_cons_succ]) | (apply lexN' (j := 2) (d := 7) (b := true) rfl rfl rfl; simp only [Act.put, List.setIfInBounds_toArray, List.set_cons_zero, List.set_cons_succ]) | (apply lexFg (j := 2) (d := 7) (b := true) rfl rfl rfl rfl; (· intro _; go_simp; (try go_bits); exact ⟨rfl, rfl⟩); simp only [Act.put, List.setIfInBounds_toArray, List.set_cons_zero, List.set_cons_succ])
    first | (apply lexN (j := 2) (d := 7) (b := true) rfl rfl rfl rfl; simp only [Act.put, List.setIfInBounds_toArray, List.set_cons_zero, List.set_cons_succ]) | (apply lexN' (j := 2) (d := 7) (b := true) rfl rfl rfl; simp only [Act.put, List.setIfInBounds_toArray, List.set_cons_zero, List.set_cons_succ]) | (apply lexFg (j := 2) (d := 7) (b := true) rfl rfl rfl rfl; (· intro _; go_simp; (try go_bits); exact ⟨rfl, rfl⟩); simp only [Act.put, List.setIfInBounds_toArray, List.set_cons_zero, List.set_cons_succ])
    first | (apply lexN (j := 2) (d := 7) (b := true) rfl rfl rfl rfl; simp only [Act.put, List.setIfInBounds_toArray, List.set_cons_zero, List.set_cons_succ]) | (apply lexN' (j := 2) (d := 7) (b := true) rfl rfl rfl; simp only [Act.put, List.setIfInBounds_toArray, List.set_cons_zero, List.set_cons_succ]) | (apply lexHg (j := 2) (d := 7) (b := true) rfl rfl rfl rfl; (· intro w' hw'; have hcc := cellsBelow hw'; go_simp; (try go_bits); exact ⟨rfl, hw'⟩); simp only [Act.put, List.setIfInBounds_toArray, List.set_cons_zero, List.set_cons_succ])
    apply lexHg (j := 2) (d := 7) (b := true) rfl rfl rfl rfl
    · intro w' hw'; go_simp; (try go_bits); refine (rmask_any n _ h0 h1).mono ?_; rintro e w'' ⟨rfl, rfl⟩; exact ⟨_, rfl, rfl, hw'⟩
    simp only [Act.put, List.setIfInBounds_toArray, List.set_cons_zero, List.set_cons_succ]
    first | (apply lexN (j := 2) (d := 7) (b := true) rfl rfl rfl rfl; simp only [Act.put, List.setIfInBounds_toArray, List.set_cons_zero, List.set_cons_succ]) | (apply lexN' (j := 2) (d := 7) (b := true) rfl rfl rfl; simp only [Act.put, List.setIfInBounds_toArray, List.set_cons_zero, List.set_cons_succ]) | (apply lexFg (j := 2) (d := 7) (b := true) rfl rfl rfl rfl; (· intro _; go_simp; (try go_bits); exact ⟨rfl, rfl⟩); simp only [Act.put, List.setIfInBounds_toArray, List.set_cons_zero, List.set_cons_succ])
    first | (apply lexN (j := 2) (d := 7) (b := true) rfl rfl rfl rfl; simp only [Act.put, List.setIfInBounds_toArray, List.set_cons_zero, List.set_cons_succ]) | (apply lexN' (j := 2) (d := 7) (b := true) rfl rfl rfl; simp only [Act.put, List.setIfInBounds_toArray, List.set_cons_zero, List.set_cons_succ]) | (apply lexFg (j := 2) (d := 7) (b := true) rfl rfl rfl rfl; (· intro _; go_simp; (try go_bits); exact ⟨rfl, rfl⟩); simp only [Act.put, List.setIfInBounds_toArray, List.set_cons_zero, List.set_cons_succ])
    first | (apply lexN (j := 2) (d := 7) (b := true) rfl rfl rfl rfl; simp only [Act.put, List.setIfInBounds_toArray, List.set_cons_zero, List.set_cons_succ]) | (apply lexN' (j := 2) (d := 7) (b := true) rfl rfl rfl; simp only [Act.put, List.setIfInBounds_toArray, List.set_cons_zero, List.set_cons_succ]) | (apply lexHg (j := 2) (d := 7) (b := true) rfl rfl rfl rfl; (· intro w' hw'; have hcc := cellsBelow hw'; go_simp; (try go_bits); exact ⟨rfl, hw'⟩); simp only [Act.put, List.setIfInBounds_toArray, List.set_cons_zero, List.set_cons_succ])
    first | (apply lexN (j := 2) (d := 7) (b := true) rfl rfl rfl rfl; simp only [Act.put, List.setIfInBounds_toArray, List.set_cons_zero, List.set_cons_succ]) | (apply lexN' (j := 2) (d := 7) (b := true) rfl rfl rfl; simp only [Act.put, List.setIfInBounds_toArray, List.set_cons_zero, List.set_cons_succ]) | (apply lexFg (j := 2) (d := 7) (b := true) rfl rfl rfl rfl; (· intro _; go_simp; (try go_bits); exact ⟨rfl, rfl⟩); simp only [Act.put, List.setIfInBounds_toArray, List.set_cons_zero, List.set_cons_succ])
    apply lexF rfl; (· intro _; go_simp; (try go_bits); exact ⟨rfl, rfl⟩); simp only [Act.put, List.setIfInBounds_toArray, List.set_cons_zero, List.set_cons_succ]
    apply lexF rfl; (· intro _; go_simp; (try go_bits); exact ⟨rfl, rfl⟩); simp only [Act.put, List.setIfInBounds_toArray, List.set_cons_zero, List.set_cons_succ]
    refine lexEnd (fun w2 hw2 => ?_)
    go_wp2
    go_ret
    exact ⟨by rw [E.out]; exact ret_bool (by rw [Bool.eq_iff_iff]; simp only [beq_iff_eq, decide_eq_true_eq]; omega), fin _ hw2⟩
set_option maxHeartbeats 400000 in
theorem rcovers_any (a : Nat) (n : Int) (b : Nat) (m : Int) (w : World) (ha : W32 a) (hb : W32 b) :
    Calls Tryz.prog 56 #[.agg #[.int .u32 (a : Int), .int .i64 n], .agg #[.int .u32 (b : Int), .int .i64 m]] w fun e w' => e = .returned (.bool (cvr a n b m)) ∧ Below w.heap.size w w' := by
  have fin : ∀ w2, Below (w.heap.size + 2) ((w.alloc (.cells #[.int .u32 (a : Int), .int .i64 n] 31)).alloc (.cells #[.int .u32 (b : Int), .int .i64 m] 31)) w2 → Below w.heap.size w w2 := fun w2 h =>
    (((Below.refl _ w).alloc (Nat.le_refl _) _).alloc (by simp) _).trans (h.mono (by omega))
  have S0 : ∀ w', Below (w.heap.size + 2) ((w.alloc (.cells #[.int .u32 (a : Int), .int .i64 n] 31)).alloc (.cells #[.int .u32 (b : Int), .int .i64 m] 31)) w' → w.heap.size + 2 ≤ w'.heap.size := fun w' h => by
    have := h.size; simp at this; omega
  go_enter Tryz.func56, Tryz.ntmps56
  go_upto_region 1 with (fail)
  refine wp_region_text (fun w' => Below (w.heap.size + 2) ((w.alloc (.cells #[.int .u32 (a : Int), .int .i64 n] 31)).alloc (.cells #[.int .u32 (b : Int), .int .i64 m] 31)) w') [1, 1, 0, 0, 1, 0, 1, 0, 0, 0, 1, 0, 1, 1, 0, 0] (by exact Below.refl _ _) ?_
  cases hv : vld b m
  · have E := hid (show cvr a n b m = false by simp [cvr, hv])
    have HV := hid hv
    clear hv
    apply lexH rfl; (· intro w' hw'; have hcc := cellsBelow hw'; go_simp; (try go_bits); exact ⟨rfl, hw'⟩); simp only [Act.put, List.setIfInBounds_toArray, List.set_cons_zero, List.set_cons_succ]
    apply lexH rfl
    · intro w' hw'; go_simp; (try go_bits); refine (rvalid_any b m _ hb).mono ?_; rintro e w'' ⟨rfl, hbb⟩; exact ⟨_, rfl, congrArg Value.bool HV.out, hw'.trans (hbb.mono (S0 _ hw'))⟩
    simp only [Act.put, List.setIfInBounds_toArray, List.set_cons_zero, List.set_cons_succ]
    apply lexF rfl; (· intro _; go_simp; (try go_bits); exact ⟨rfl, rfl⟩); simp only [Act.put, List.setIfInBounds_toArray, List.set_cons_zero, List.set_cons_succ]
    first | (apply lexN (j := 2) (d := 7) (b := true) rfl rfl rfl rfl; simp only [Act.put, List.setIfInBounds_toArray, List.set_cons_zero, List.set_cons_succ]) | (apply lexN' (j := 2) (d := 7) (b := true) rfl rfl rfl; simp only [Act.put, List.setIfInBounds_toArray, List.set_cons_zero, List.set_cons_succ]) | (apply lexFg (j := 2) (d := 7) (b := true) rfl rfl rfl rfl; (· intro _; go_simp; (try go_bits); exact ⟨rfl, rfl⟩); simp only [Act.put, List.setIfInBounds_toArray, List.set_cons_zero, List.set_cons_succ])
    first | (apply lexN (j := 2) (d := 7) (b := true) rfl rfl rfl rfl; simp only [Act.put, List.setIfInBounds_toArray, List.set_cons_zero, List.set_cons_succ]) | (apply lexN' (j := 2) (d := 7) (b := true) rfl rfl rfl; simp only [Act.put, List.setIfInBounds_toArray, List.set_cons_zero, List.set_cons_succ]) | (apply lexHg (j := 2) (d := 7) (b := true) rfl rfl rfl rfl; (· intro w' hw'; have hcc := cellsBelow hw'; go_simp; (try go_bits); exact ⟨rfl, hw'⟩); simp only [Act.put, List.setIfInBounds_toArray, List.set_cons_zero, List.set_cons_succ])
    first | (apply lexN (j := 2) (d := 7) (b := true) rfl rfl rfl rfl; simp only [Act.put, List.setIfInBounds_toArray, List.set_cons_zero, List.set_cons_succ]) | (apply lexN' (j := 2) (d := 7) (b := true) rfl rfl rfl; simp only [Act.put, List.setIfInBounds_toArray, List.set_cons_zero, List.set_cons_succ]) | (apply lexFg (j := 2) (d := 7) (b := true) rfl rfl rfl rfl; (· intro _; go_simp; (try go_bits); exact ⟨rfl, rfl⟩); simp only [Act.put, List.setIfInBounds_toArray, List.set_cons_zero, List.set_cons_succ])
    first | (apply lexN (j := 2) (d := 7) (b := true) rfl rfl rfl rfl; simp only [Act.put, List.setIfInBounds_toArray, List.set_cons_zero, List.set_cons_succ]) | (apply lexN' (j := 2) (d := 7) (b := true) rfl rfl rfl; simp only [Act.put, List.setIfInBounds_toArray, List.set_cons_zero, List.set_cons_succ]) | (apply lexHg (j := 2) (d := 7) (b := true) rfl rfl rfl rfl; (· intro w' hw'; have hcc := cellsBelow hw'; go_simp; (try go_bits); exact ⟨rfl, hw'⟩); simp only [Act.put, List.setIfInBounds_toArray, List.set_cons_zero, List.set_cons_succ])
    first | (apply lexN (j := 2) (d := 7) (b := true) rfl rfl rfl rfl; simp only [Act.put, List.setIfInBounds_toArray, List.set_cons_zero, List.set_cons_succ]) | (apply lexN' (j := 2) (d := 7) (b := true) rfl rfl rfl; simp only [Act.put, List.setIfInBounds_toArray, List.set_cons_zero, List.set_cons_succ]) | (apply lexFg (j := 2) (d := 7) (b := true) rfl rfl rfl rfl; (· intro _; go_simp; (try go_bits); exact ⟨rfl, rfl⟩); simp only [Act.put, List.setIfInBounds_toArray, List.set_cons_zero, List.set_cons_succ])
    apply lexF rfl; (· intro _; go_simp; (try go_bits); exact ⟨rfl, rfl⟩); simp only [Act.put, List.setIfInBounds_toArray, List.set_cons_zero, List.set_cons_succ]
    apply lexF rfl; (· intro _; go_simp; (try go_bits); exact ⟨rfl, rfl⟩); simp only [Act.put, List.setIfInBounds_toArray, List.set_cons_zero, List.set_cons_succ]
    first | (apply lexN (j := 9) (d := 14) (b := true) rfl rfl rfl rfl; simp only [Act.put, List.setIfInBounds_toArray, List.set_cons_zero, List.set_cons_succ]) | (apply lexN' (j := 9) (d := 14) (b := true) rfl rfl rfl; simp only [Act.put, List.setIfInBounds_toArray, List.set_cons_zero, List.set_cons_succ]) | (apply lexHg (j := 9) (d := 14) (b := true) rfl rfl rfl rfl; (· intro w' hw'; have hcc := cellsBelow hw'; go_simp; (try go_bits); exact ⟨rfl, hw'⟩); simp only [Act.put, List.setIfInBounds_toArray, List.set_cons_zero, List.set_cons_succ])
    first | (apply lexN (j := 9) (d := 14) (b := true) rfl rfl rfl rfl; simp only [Act.put, List.setIfInBounds_toArray, List.set_cons_zero, List.set_cons_succ]) | (apply lexN' (j := 9) (d := 14) (b := true) rfl rfl rfl; simp only [Act.put, List.setIfInBounds_toArray, List.set_cons_zero, List.set_cons_succ]) | (apply lexFg (j := 9) (d := 14) (b := true) rfl rfl rfl rfl; (· intro _; go_simp; (try go_bits); exact ⟨rfl, rfl⟩); simp only [Act.put, List.setIfInBounds_toArray, List.set_cons_zero, List.set_cons_succ])
    first | (apply lexN (j := 9) (d := 14) (b := true) rfl rfl rfl rfl; simp only [Act.put, List.setIfInBounds_toArray, List.set_cons_zero, List.set_cons_succ]) | (apply lexN' (j := 9) (d := 14) (b := true) rfl rfl rfl; simp only [Act.put, List.setIfInBounds_toArray, List.set_cons_zero, List.set_cons_succ]) | (apply lexHg (j := 9) (d := 14) (b := true) rfl rfl rfl rfl; (· intro w' hw'; have hcc := cellsBelow hw'; go_simp; (try go_bits); exact ⟨rfl, hw'⟩); simp only [Act.put, List.setIfInBounds_toArray, List.set_cons_zero, List.set_cons_succ])
    first | (apply lexN (j := 9) (d := 14) (b := true) rfl rfl rfl rfl; simp only [Act.put, List.setIfInBounds_toArray, List.set_cons_zero, List.set_cons_succ]) | (apply lexN' (j := 9) (d := 14) (b := true) rfl rfl rfl; simp only [Act.put, List.setIfInBounds_toArray, List.set_cons_zero, List.set_cons_succ]) | (apply lexHg (j := 9) (d := 14) (b := true) rfl rfl rfl rfl; (· intro w' hw'; have hcc := cellsBelow hw'; go_simp; (try go_bits); exact ⟨rfl, hw'⟩); simp only [Act.put, List.setIfInBounds_toArray, List.set_cons_zero, List.set_cons_succ])
    apply lexF rfl; (· intro _; go_simp; (try go_bits); exact ⟨rfl, rfl⟩); simp only [Act.put, List.setIfInBounds_toArray, List.set_cons_zero, List.set_cons_succ]
    apply lexF rfl; (· intro _; go_simp; (try go_bits); exact ⟨rfl, rfl⟩); simp only [Act.put, List.setIfInBounds_toArray, List.set_cons_zero, List.set_cons_succ]
    refine lexEnd (fun w2 hw2 => ?_)
    go_wp2
    go_ret
    exact ⟨by rw [E.out]; rfl, fin _ hw2⟩
  · by_cases hc : n ≤ m
    · have E := hid (show cvr a n b m = cts a n b by simp [cvr, hv, hc])
      have HV := hid hv
      clear hv
      apply lexH rfl; (· intro w' hw'; have hcc := cellsBelow hw'; go_simp; (try go_bits); exact ⟨rfl, hw'⟩); simp only [Act.put, List.setIfInBounds_toArray, List.set_cons_zero, List.set_cons_succ]
      apply lexH rfl
      · intro w' hw'; go_simp; (try go_bits); refine (rvalid_any b m _ hb).mono ?_; rintro e w'' ⟨rfl, hbb⟩; exact ⟨_, rfl, congrArg Value.bool HV.out, hw'.trans (hbb.mono (S0 _ hw'))⟩
      simp only [Act.put, List.setIfInBounds_toArray, List.set_cons_zero, List.set_cons_succ]
      apply lexF rfl; (· intro _; go_simp; (try go_bits); exact ⟨rfl, rfl⟩); simp only [Act.put, List.setIfInBounds_toArray, List.set_cons_zero, List.set_cons_succ]
      first | (apply lexN (j := 2) (d := 7) (b := true) rfl rfl rfl rfl; simp only [Act.put, List.setIfInBounds_toArray, List.set_cons_zero, List.set_cons_succ]) | (apply lexN' (j := 2) (d := 7) (b := true) rfl rfl rfl; simp only [Act.put, List.setIfInBounds_toArray, List.set_cons_zero, List.set_cons_succ]) | (apply lexFg (j := 2) (d := 7) (b := true) rfl rfl rfl rfl; (· intro _; go_simp; (try go_bits); exact ⟨rfl, rfl⟩); simp only [Act.put, List.setIfInBounds_toArray, List.set_cons_zero, List.set_cons_succ])
      first | (apply lexN (j := 2) (d := 7) (b := true) rfl rfl rfl rfl; simp only [Act.put, List.setIfInBounds_toArray, List.set_cons_zero, List.set_cons_succ]) | (apply lexN' (j := 2) (d := 7) (b := true) rfl rfl rfl; simp only [Act.put, List.setIfInBounds_toArray, List.set_cons_zero, List.set_cons_succ]) | (apply lexHg (j := 2) (d := 7) (b := true) rfl rfl rfl rfl; (· intro w' hw'; have hcc := cellsBelow hw'; go_simp; (try go_bits); exact ⟨rfl, hw'⟩); simp only [Act.put, List.setIfInBounds_toArray, List.set_cons_zero, List.set_cons_succ])
      first | (apply lexN (j := 2) (d := 7) (b := true) rfl rfl rfl rfl; simp only [Act.put, List.setIfInBounds_toArray, List.set_cons_zero, List.set_cons_succ]) | (apply lexN' (j := 2) (d := 7) (b := true) rfl rfl rfl; simp only [Act.put, List.setIfInBounds_toArray, List.set_cons_zero, List.set_cons_succ]) | (apply lexFg (j := 2) (d := 7) (b := true) rfl rfl rfl rfl; (· intro _; go_simp; (try go_bits); exact ⟨rfl, rfl⟩); simp only [Act.put, List.setIfInBounds_toArray, List.set_cons_zero, List.set_cons_succ])
      first | (apply lexN (j := 2) (d := 7) (b := true) rfl rfl rfl rfl; simp only [Act.put, List.setIfInBounds_toArray, List.set_cons_zero, List.set_cons_succ]) | (apply lexN' (j := 2) (d := 7) (b := true) rfl rfl rfl; simp only [Act.put, List.setIfInBounds_toArray, List.set_cons_zero, List.set_cons_succ]) | (apply lexHg (j := 2) (d := 7) (b := true) rfl rfl rfl rfl; (· intro w' hw'; have hcc := cellsBelow hw'; go_simp; (try go_bits); exact ⟨rfl, hw'⟩); simp only [Act.put, List.setIfInBounds_toArray, List.set_cons_zero, List.set_cons_succ])
      first | (apply lexN (j := 2) (d := 7) (b := true) rfl rfl rfl rfl; simp only [Act.put, List.setIfInBounds_toArray, List.set_cons_zero, List.set_cons_succ]) | (apply lexN' (j := 2) (d := 7) (b := true) rfl rfl rfl; simp only [Act.put, List.setIfInBounds_toArray, List.set_cons_zero, List.set_cons_succ]) | (apply lexFg (j := 2) (d := 7) (b := true) rfl rfl rfl rfl; (· intro _; go_simp; (try go_bits); exact ⟨rfl, rfl⟩); simp only [Act.put, List.setIfInBounds_toArray, List.set_cons_zero, List.set_cons_succ])
      apply lexF rfl; (· intro _; go_simp; (try go_bits); exact ⟨rfl, rfl⟩); simp only [Act.put, List.setIfInBounds_toArray, List.set_cons_zero, List.set_cons_succ]
      apply lexF rfl; (· intro _; go_simp; (try go_bits); exact ⟨rfl, rfl⟩); simp only [Act.put, List.setIfInBounds_toArray, List.set_cons_zero, List.set_cons_succ]
      first | (apply lexN (j := 9) (d := 14) (b := true) rfl rfl rfl rfl; simp only [Act.put, List.setIfInBounds_toArray, List.set_cons_zero, List.set_cons_succ]) | (apply lexN' (j := 9) (d := 14) (b := true) rfl rfl rfl; simp only [Act.put, List.setIfInBounds_toArray, List.set_cons_zero, List.set_cons_succ]) | (apply lexHg (j := 9) (d := 14) (b := true) rfl rfl rfl rfl; (· intro w' hw'; have hcc := cellsBelow hw'; go_simp; (try go_bits); exact ⟨rfl, hw'⟩); simp only [Act.put, List.setIfInBounds_toArray, List.set_cons_zero, List.set_cons_succ])
      first | (apply lexN (j := 9) (d := 14) (b := true) rfl rfl rfl rfl; simp only [Act.put, List.setIfInBounds_toArray, List.set_cons_zero, List.set_cons_succ]) | (apply lexN' (j := 9) (d := 14) (b := true) rfl rfl rfl; simp only [Act.put, List.setIfInBounds_toArray, List.set_cons_zero, List.set_cons_succ]) | (apply lexFg (j := 9) (d := 14) (b := true) rfl rfl rfl rfl; (· intro _; go_simp; (try go_bits); exact ⟨rfl, rfl⟩); simp only [Act.put, List.setIfInBounds_toArray, List.set_cons_zero, List.set_cons_succ])
      first | (apply lexN (j := 9) (d := 14) (b := true) rfl rfl rfl rfl; simp only [Act.put, List.setIfInBounds_toArray, List.set_cons_zero, List.set_cons_succ]) | (apply lexN' (j := 9) (d := 14) (b := true) rfl rfl rfl; simp only [Act.put, List.setIfInBounds_toArray, List.set_cons_zero, List.set_cons_succ]) | (apply lexHg (j := 9) (d := 14) (b := true) rfl rfl rfl rfl; (· intro w' hw'; have hcc := cellsBelow hw'; go_simp; (try go_bits); exact ⟨rfl, hw'⟩); simp only [Act.put, List.setIfInBounds_toArray, List.set_cons_zero, List.set_cons_succ])
      apply lexHg (j := 9) (d := 14) (b := true) rfl rfl rfl rfl
      · intro w' hw'; go_simp; (try go_bits); refine (rcontains_any a n b _ ha hb).mono ?_; rintro e w'' ⟨rfl, hbb⟩; exact ⟨_, rfl, rfl, hw'.trans (hbb.mono (S0 _ hw'))⟩
      simp only [Act.put, List.setIfInBounds_toArray, List.set_cons_zero, List.set_cons_succ]
      apply lexF rfl; (· intro _; go_simp; (try go_bits); exact ⟨rfl, rfl⟩); simp only [Act.put, List.setIfInBounds_toArray, List.set_cons_zero, List.set_cons_succ]
      apply lexF rfl; (· intro _; go_simp; (try go_bits); exact ⟨rfl, rfl⟩); simp only [Act.put, List.setIfInBounds_toArray, List.set_cons_zero, List.set_cons_succ]
      refine lexEnd (fun w2 hw2 => ?_)
      go_wp2
      go_ret
      exact ⟨by rw [E.out]; rfl, fin _ hw2⟩
    · have E := hid (show cvr a n b m = false by simp [cvr, hc])
      have HV := hid hv
      have hd : decide (n ≤ m) = false := by simpa using hc
      clear hv
      apply lexH rfl; (· intro w' hw'; have hcc := cellsBelow hw'; go_simp; (try go_bits); exact ⟨rfl, hw'⟩); simp only [Act.put, List.setIfInBounds_toArray, List.set_cons_zero, List.set_cons_succ]
      apply lexH rfl
      · intro w' hw'; go_simp; (try go_bits); refine (rvalid_any b m _ hb).mono ?_; rintro e w'' ⟨rfl, hbb⟩; exact ⟨_, rfl, congrArg Value.bool HV.out, hw'.trans (hbb.mono (S0 _ hw'))⟩
      simp only [Act.put, List.setIfInBounds_toArray, List.set_cons_zero, List.set_cons_succ]
      apply lexF rfl; (· intro _; go_simp; (try go_bits); exact ⟨rfl, rfl⟩); simp only [Act.put, List.setIfInBounds_toArray, List.set_cons_zero, List.set_cons_succ]
      first | (apply lexN (j := 2) (d := 7) (b := true) rfl rfl rfl rfl; simp only [Act.put, List.setIfInBounds_toArray, List.set_cons_zero, List.set_cons_succ]) | (apply lexN' (j := 2) (d := 7) (b := true) rfl rfl rfl; simp only [Act.put, List.setIfInBounds_toArray, List.set_cons_zero, List.set_cons_succ]) | (apply lexFg (j := 2) (d := 7) (b := true) rfl rfl rfl rfl; (· intro _; go_simp; (try go_bits); exact ⟨rfl, rfl⟩); simp only [Act.put, List.setIfInBounds_toArray, List.set_cons_zero, List.set_cons_succ])
      first | (apply lexN (j := 2) (d := 7) (b := true) rfl rfl rfl rfl; simp only [Act.put, List.setIfInBounds_toArray, List.set_cons_zero, List.set_cons_succ]) | (apply lexN' (j := 2) (d := 7) (b := true) rfl rfl rfl; simp only [Act.put, List.setIfInBounds_toArray, List.set_cons_zero, List.set_cons_succ]) | (apply lexHg (j := 2) (d := 7) (b := true) rfl rfl rfl rfl; (· intro w' hw'; have hcc := cellsBelow hw'; go_simp; (try go_bits); exact ⟨rfl, hw'⟩); simp only [Act.put, List.setIfInBounds_toArray, List.set_cons_zero, List.set_cons_succ])
      first | (apply lexN (j := 2) (d := 7) (b := true) rfl rfl rfl rfl; simp only [Act.put, List.setIfInBounds_toArray, List.set_cons_zero, List.set_cons_succ]) | (apply lexN' (j := 2) (d := 7) (b := true) rfl rfl rfl; simp only [Act.put, List.setIfInBounds_toArray, List.set_cons_zero, List.set_cons_succ]) | (apply lexFg (j := 2) (d := 7) (b := true) rfl rfl rfl rfl; (· intro _; go_simp; (try go_bits); exact ⟨rfl, rfl⟩); simp only [Act.put, List.setIfInBounds_toArray, List.set_cons_zero, List.set_cons_succ])
      first | (apply lexN (j := 2) (d := 7) (b := true) rfl rfl rfl rfl; simp only [Act.put, List.setIfInBounds_toArray, List.set_cons_zero, List.set_cons_succ]) | (apply lexN' (j := 2) (d := 7) (b := true) rfl rfl rfl; simp only [Act.put, List.setIfInBounds_toArray, List.set_cons_zero, List.set_cons_succ]) | (apply lexHg (j := 2) (d := 7) (b := true) rfl rfl rfl rfl; (· intro w' hw'; have hcc := cellsBelow hw'; go_simp; (try go_bits); exact ⟨rfl, hw'⟩); simp only [Act.put, List.setIfInBounds_toArray, List.set_cons_zero, List.set_cons_succ])
      first | (apply lexN (j := 2) (d := 7) (b := true) rfl rfl rfl rfl; simp only [Act.put, List.setIfInBounds_toArray, List.set_cons_zero, List.set_cons_succ]) | (apply lexN' (j := 2) (d := 7) (b := true) rfl rfl rfl; simp only [Act.put, List.setIfInBounds_toArray, List.set_cons_zero, List.set_cons_succ]) | (apply lexFg (j := 2) (d := 7) (b := true) rfl rfl rfl rfl; (· intro _; go_simp; (try go_bits); exact ⟨rfl, rfl⟩); simp only [Act.put, List.setIfInBounds_toArray, List.set_cons_zero, List.set_cons_succ])
      apply lexF rfl; (· intro _; go_simp; (try go_bits); exact ⟨rfl, rfl⟩); simp only [Act.put, List.setIfInBounds_toArray, List.set_cons_zero, List.set_cons_succ]
      apply lexF rfl; (· intro _; go_simp; (try go_bits); exact ⟨rfl, rfl⟩); simp only [Act.put, List.setIfInBounds_toArray, List.set_cons_zero, List.set_cons_succ]
      first | (apply lexN (j := 9) (d := 14) (b := true) rfl rfl rfl rfl; simp only [Act.put, List.setIfInBounds_toArray, List.set_cons_zero, List.set_cons_succ]) | (apply lexN' (j := 9) (d := 14) (b := true) rfl rfl rfl; simp only [Act.put, List.setIfInBounds_toArray, List.set_cons_zero, List.set_cons_succ]) | (apply lexHg (j := 9) (d := 14) (b := true) rfl rfl rfl rfl; (· intro w' hw'; have hcc := cellsBelow hw'; go_simp; (try go_bits); exact ⟨rfl, hw'⟩); simp only [Act.put, List.setIfInBounds_toArray, List.set_cons_zero, List.set_cons_succ])
      first | (apply lexN (j := 9) (d := 14) (b := true) rfl rfl rfl rfl; simp only [Act.put, List.setIfInBounds_toArray, List.set_cons_zero, List.set_cons_succ]) | (apply lexN' (j := 9) (d := 14) (b := true) rfl rfl rfl; simp only [Act.put, List.setIfInBounds_toArray, List.set_cons_zero, List.set_cons_succ]) | (apply lexFg (j := 9) (d := 14) (b := true) rfl rfl rfl rfl; (· intro _; go_simp; (try go_bits); exact ⟨rfl, rfl⟩); simp only [Act.put, List.setIfInBounds_toArray, List.set_cons_zero, List.set_cons_succ])
      first | (apply lexN (j := 9) (d := 14) (b := true) rfl rfl rfl rfl; simp only [Act.put, List.setIfInBounds_toArray, List.set_cons_zero, List.set_cons_succ]) | (apply lexN' (j := 9) (d := 14) (b := true) rfl rfl rfl; simp only [Act.put, List.setIfInBounds_toArray, List.set_cons_zero, List.set_cons_succ]) | (apply lexHg (j := 9) (d := 14) (b := true) rfl rfl rfl rfl; (· intro w' hw'; have hcc := cellsBelow hw'; go_simp; (try go_bits); exact ⟨rfl, hw'⟩); simp only [Act.put, List.setIfInBounds_toArray, List.set_cons_zero, List.set_cons_succ])
      first | (apply lexN (j := 9) (d := 14) (b := true) rfl rfl rfl rfl; simp only [Act.put, List.setIfInBounds_toArray, List.set_cons_zero, List.set_cons_succ]) | (apply lexN' (j := 9) (d := 14) (b := true) rfl rfl rfl; simp only [Act.put, List.setIfInBounds_toArray, List.set_cons_zero, List.set_cons_succ]) | (apply lexHg (j := 9) (d := 14) (b := true) rfl rfl rfl rfl; (· intro w' hw'; have hcc := cellsBelow hw'; go_simp; (try go_bits); exact ⟨rfl, hw'⟩); simp only [Act.put, List.setIfInBounds_toArray, List.set_cons_zero, List.set_cons_succ])
      apply lexF rfl; (· intro _; go_simp; (try go_bits); exact ⟨rfl, rfl⟩); simp only [Act.put, List.setIfInBounds_toArray, List.set_cons_zero, List.set_cons_succ]
      apply lexF rfl; (· intro _; go_simp; (try go_bits); exact ⟨rfl, rfl⟩); simp only [Act.put, List.setIfInBounds_toArray, List.set_cons_zero, List.set_cons_succ]
      refine lexEnd (fun w2 hw2 => ?_)
      go_wp2
      go_ret
      exact ⟨by rw [E.out]; rfl, fin _ hw2⟩
end Go.Proofs.YtbbjjjaclbkolaaGreatDoor
